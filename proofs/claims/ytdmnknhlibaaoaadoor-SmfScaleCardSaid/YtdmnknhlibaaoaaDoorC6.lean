/- Functions and contracts printed by a program of this session (wip/tools), and texts by hand: Print, Parse, and the plain answers (part 6). -/
import Derived.KernelRfl
import Derived.Lib.Strings
import Derived.Lib.SmallJoins
import Derived.IntWalk
import Derived.Deep.Slices
import Derived.Deep.Fields
import Derived.ChangeSame
import Derived.ChangeArms
import Derived.OpenShut
import Derived.Test.YtdmnknhlibaaoaaDoorCW
import Derived.Test.YtdmnknhlibaaoaaDoorC4
import Derived.Test.YtdmnknhlibaaoaaDoorC0
import Derived.Test.YtdmnknhlibaaoaaDoorC1
import Derived.Test.YtdmnknhlibaaoaaDoorC3
import Derived.Test.YtdmnknhlibaaoaaDoorC2
import Derived.Test.YtdmnknhlibaaoaaDoorC5
namespace Go.Proofs.YtdmnknhlibaaoaaDoor.Z
open Go.RowKit Go.Proofs.YtdmnknhlibaaoaaDoorW.PrintWords Go.Proofs.YtdmnknhlibaaoaaDoor.M
set_option linter.unusedVariables false
def numP (p : S37) : Option Int := match pitch_Number.f p.f0 p.f1 p.f2 with | some (n, e) => if e = 0 then some n else none | none => none
theorem numP_f {p : S37} {n : Int} (h : numP p = some n) : pitch_Number.f p.f0 p.f1 p.f2 = some (n, 0) := by
  unfold numP at h
  split at h
  · rename_i m e he
    by_cases c : e = 0
    · rw [if_pos c] at h
      rw [he, c, Option.some.inj h]
    · rw [if_neg c] at h
      cases h
  · cases h
def stepB (a b : Int) : Bool := decide (b - a = 1) || decide (b - a = 2)
def goodB (n : Int) : Bool := decide (0 ≤ n) && decide (n ≤ 127)
theorem stepB_or {a b : Int} (h : stepB a b = true) : b - a = 1 ∨ b - a = 2 := by
  unfold stepB at h
  simpa using h
theorem goodB_and {n : Int} (h : goodB n = true) : 0 ≤ n ∧ n ≤ 127 := by
  unfold goodB at h
  simpa using h
structure Scale (f : Int) (m : Bool) (p0 p1 p2 p3 p4 p5 p6 : S37) (n0 n1 n2 n3 n4 n5 n6 : Int) : Prop where
  sc : key_Scale.f 9 f m = some ([p0, p1, p2, p3, p4, p5, p6], 0)
  e0 : pitch_Number.f p0.f0 p0.f1 p0.f2 = some (n0, 0)
  e1 : pitch_Number.f p1.f0 p1.f1 p1.f2 = some (n1, 0)
  e2 : pitch_Number.f p2.f0 p2.f1 p2.f2 = some (n2, 0)
  e3 : pitch_Number.f p3.f0 p3.f1 p3.f2 = some (n3, 0)
  e4 : pitch_Number.f p4.f0 p4.f1 p4.f2 = some (n4, 0)
  e5 : pitch_Number.f p5.f0 p5.f1 p5.f2 = some (n5, 0)
  e6 : pitch_Number.f p6.f0 p6.f1 p6.f2 = some (n6, 0)
  g0 : 0 ≤ n0 ∧ n0 ≤ 127
  g1 : 0 ≤ n1 ∧ n1 ≤ 127
  g2 : 0 ≤ n2 ∧ n2 ≤ 127
  g3 : 0 ≤ n3 ∧ n3 ≤ 127
  g4 : 0 ≤ n4 ∧ n4 ≤ 127
  g5 : 0 ≤ n5 ∧ n5 ≤ 127
  g6 : 0 ≤ n6 ∧ n6 ≤ 127
  s1 : n1 - n0 = 1 ∨ n1 - n0 = 2
  s2 : n2 - n1 = 1 ∨ n2 - n1 = 2
  s3 : n3 - n2 = 1 ∨ n3 - n2 = 2
  s4 : n4 - n3 = 1 ∨ n4 - n3 = 2
  s5 : n5 - n4 = 1 ∨ n5 - n4 = 2
  s6 : n6 - n5 = 1 ∨ n6 - n5 = 2
  s7 : n0 + 12 - n6 = 1 ∨ n0 + 12 - n6 = 2
def scaleB (f : Int) (m : Bool) : Bool :=
  match key_Scale.f 9 f m with
  | some ([p0, p1, p2, p3, p4, p5, p6], e) =>
    match numP p0, numP p1, numP p2, numP p3, numP p4, numP p5, numP p6 with
    | some n0, some n1, some n2, some n3, some n4, some n5, some n6 =>
      decide (e = 0) && (goodB n0 && (goodB n1 && (goodB n2 && (goodB n3 && (goodB n4 && (goodB n5 && (goodB n6 && (stepB n0 n1 && (stepB n1 n2 && (stepB n2 n3 && (stepB n3 n4 && (stepB n4 n5 && (stepB n5 n6 && stepB n6 (n0 + 12))))))))))))))
    | _, _, _, _, _, _, _ => false
  | _ => false
theorem scale_of {f : Int} {m : Bool} (h : scaleB f m = true) : ∃ p0 p1 p2 p3 p4 p5 p6 n0 n1 n2 n3 n4 n5 n6, Scale f m p0 p1 p2 p3 p4 p5 p6 n0 n1 n2 n3 n4 n5 n6 := by
  unfold scaleB at h
  split at h
  · rename_i p0 p1 p2 p3 p4 p5 p6 e he
    split at h
    · rename_i n0 n1 n2 n3 n4 n5 n6 h0 h1 h2 h3 h4 h5 h6
      simp only [Bool.and_eq_true, decide_eq_true_eq] at h
      obtain ⟨rfl, g0, g1, g2, g3, g4, g5, g6, s1, s2, s3, s4, s5, s6, s7⟩ := h
      exact ⟨p0, p1, p2, p3, p4, p5, p6, n0, n1, n2, n3, n4, n5, n6, he, numP_f h0, numP_f h1, numP_f h2, numP_f h3, numP_f h4, numP_f h5, numP_f h6, goodB_and g0, goodB_and g1, goodB_and g2, goodB_and g3, goodB_and g4, goodB_and g5, goodB_and g6,
        stepB_or s1, stepB_or s2, stepB_or s3, stepB_or s4, stepB_or s5, stepB_or s6, stepB_or s7⟩
    · cases h
  · cases h
theorem scale_all : ((List.range 15).all fun i : Nat => scaleB ((i : Int) - 7) false && scaleB ((i : Int) - 7) true) = true := by kernel_rfl
theorem scale_ex {f : Int} (h0 : -7 ≤ f) (h1 : f ≤ 7) (m : Bool) : ∃ p0 p1 p2 p3 p4 p5 p6 n0 n1 n2 n3 n4 n5 n6, Scale f m p0 p1 p2 p3 p4 p5 p6 n0 n1 n2 n3 n4 n5 n6 := by
  have h := List.all_eq_true.mp scale_all (f + 7).toNat (List.mem_range.mpr (by omega))
  rw [show (((f + 7).toNat : Nat) : Int) - 7 = f by omega, Bool.and_eq_true] at h
  cases m
  · exact scale_of h.1
  · exact scale_of h.2
end Go.Proofs.YtdmnknhlibaaoaaDoor.Z
namespace Go.Proofs.YtdmnknhlibaaoaaDoor.Z
open Go.RowKit Go.Proofs.YtdmnknhlibaaoaaDoorW.PrintWords
theorem w64 {x : Int} (h0 : -9223372036854775808 ≤ x) (h1 : x ≤ 9223372036854775807) : wrap64 x = x := IntWalk.wrap64_in x ⟨h0, h1⟩
def Bytes (xs : List Int) : Prop := ∀ x ∈ xs, 0 ≤ x ∧ x ≤ 255
theorem Bytes.nil : Bytes [] := by intro x h; cases h
theorem Bytes.cons {x : Int} {xs : List Int} (h0 : 0 ≤ x) (h1 : x ≤ 255) (h : Bytes xs) : Bytes (x :: xs) := by
  intro y hy
  rcases List.mem_cons.1 hy with rfl | hy
  · exact ⟨h0, h1⟩
  · exact h y hy
theorem Bytes.append {xs ys : List Int} (h : Bytes xs) (k : Bytes ys) : Bytes (xs ++ ys) := by
  intro y hy
  rcases List.mem_append.1 hy with hy | hy
  · exact h y hy
  · exact k y hy
theorem Bytes.head {x : Int} {xs : List Int} (h : Bytes (x :: xs)) : 0 ≤ x ∧ x ≤ 255 := h x (by simp)
theorem Bytes.tail {x : Int} {xs : List Int} (h : Bytes (x :: xs)) : Bytes xs := fun y hy => h y (by simp [hy])
theorem Bytes.left {xs ys : List Int} (h : Bytes (xs ++ ys)) : Bytes xs := fun y hy => h y (by simp [hy])
theorem Bytes.right {xs ys : List Int} (h : Bytes (xs ++ ys)) : Bytes ys := fun y hy => h y (by simp [hy])
theorem Bytes.drop {xs : List Int} (h : Bytes xs) (n : Nat) : Bytes (xs.drop n) := fun y hy => h y (List.mem_of_mem_drop hy)
theorem Bytes.take {xs : List Int} (h : Bytes xs) (n : Nat) : Bytes (xs.take n) := fun y hy => h y (List.mem_of_mem_take hy)
theorem bytesOf_bytes (s : ByteArray) : Bytes (bytesOf s) := by
  intro x hx
  unfold bytesOf at hx
  obtain ⟨b, _, rfl⟩ := List.mem_map.1 hx
  have := b.toNat_lt
  omega
theorem toNat_ofNat {x : Int} (h0 : 0 ≤ x) (h1 : x ≤ 255) : ((UInt8.ofNat x.toNat).toNat : Int) = x := by
  rw [UInt8.toNat_ofNat']
  have : x.toNat % 2 ^ 8 = x.toNat := Nat.mod_eq_of_lt (by omega)
  rw [this]
  omega
theorem bytesOf_str {xs : List Int} (h : Bytes xs) : bytesOf (strOfNums xs) = xs := by
  unfold bytesOf strOfNums
  simp only [List.map_map]
  induction xs with
  | nil => rfl
  | cons x xs ih =>
    have hx := h.head
    simp only [List.map_cons, Function.comp]
    rw [toNat_ofNat hx.1 hx.2]
    exact congrArg _ (ih h.tail)
theorem str_size (xs : List Int) : (strOfNums xs).size = xs.length := by
  unfold strOfNums
  simp [ByteArray.size]
theorem str_bytesOf (s : ByteArray) : strOfNums (bytesOf s) = s := by
  obtain ⟨⟨l⟩⟩ := s
  unfold strOfNums bytesOf
  simp only [List.map_map]
  congr 2
  induction l with
  | nil => rfl
  | cons x xs ih =>
    simp only [List.map_cons, Function.comp]
    rw [ih]
    congr 1
    simp
theorem bytesOf_inj {s t : ByteArray} (h : bytesOf s = bytesOf t) : s = t := by rw [← str_bytesOf s, h, str_bytesOf]
theorem toList_eq {s t : ByteArray} : s.toList = t.toList ↔ s = t := by
  constructor
  · intro h
    rw [Lib.toList_data, Lib.toList_data] at h
    exact Go.WideShapes.bytes_inj h
  · intro h; rw [h]
theorem bytesOf_extract (s : ByteArray) (i j : Nat) : bytesOf (s.extract i j) = ((bytesOf s).drop i).take (j - i) := by
  unfold bytesOf
  rw [Lib.extract_data, List.map_take, List.map_drop]
theorem drop_at (s : ByteArray) (i : Int) (h0 : 0 ≤ i) (h1 : i < s.size) : (bytesOf s).drop i.toNat = bt s i :: (bytesOf s).drop (i + 1).toNat := by
  have hl : i.toNat < (bytesOf s).length := by rw [bytesOf_length]; omega
  rw [List.drop_eq_getElem_cons hl]
  have e : (i + 1).toNat = i.toNat + 1 := by omega
  rw [e, ← rd_bytesOf]
  unfold rd
  rw [List.getD_eq_getElem?_getD, List.getElem?_eq_getElem hl]
  rfl
theorem drop_end (s : ByteArray) (i : Int) (h1 : (s.size : Int) ≤ i) : (bytesOf s).drop i.toNat = [] := by
  apply List.drop_eq_nil_of_le
  rw [bytesOf_length]
  omega
theorem drop_len (s : ByteArray) (i : Int) (h0 : 0 ≤ i) (h1 : i ≤ s.size) : (((bytesOf s).drop i.toNat).length : Int) = s.size - i := by
  rw [List.length_drop, bytesOf_length]
  omega
theorem size_nil : (⟨#[]⟩ : ByteArray).size = 0 := rfl
theorem toList_nil (s : ByteArray) : s.toList = ([] : List UInt8) ↔ s.size = 0 := by
  rw [Lib.toList_data]
  constructor
  · intro h
    have e := data_length s
    rw [h] at e
    exact e.symm
  · intro h
    exact List.eq_nil_of_length_eq_zero ((data_length s).trans h)
theorem eq_nil_of_size {s : ByteArray} (h : s.size = 0) : s = (⟨#[]⟩ : ByteArray) := toList_eq.1 (((toList_nil s).2 h).trans ((toList_nil _).2 rfl).symm)
end Go.Proofs.YtdmnknhlibaaoaaDoor.Z
namespace Go.Proofs.YtdmnknhlibaaoaaDoor.Z
open Go.RowKit Go.Proofs.YtdmnknhlibaaoaaDoorW.PrintWords Go.Proofs.YtdmnknhlibaaoaaDoor.M
set_option linter.unusedVariables false
abbrev Msg := S39
def part (b n : Int) : List Int := if b ≤ n then [n / b % 128 + 128] else []
def num (n : Int) : List Int := part 2097152 n ++ part 16384 n ++ part 128 n ++ [n % 128]
def vlq : Nat → Int → List Int → Except Int (Int × List Int)
  | 0, _, _ => .error 150
  | _ + 1, _, [] => .error 152
  | i + 1, n, c :: r => if c < 128 then .ok (n * 128 + c, r) else vlq i (n * 128 + (c - 128)) r
theorem vlq_nil (i : Nat) (n : Int) : vlq (i + 1) n [] = .error 152 := rfl
theorem vlq_lo {i : Nat} {n c : Int} {r : List Int} (h : c < 128) : vlq (i + 1) n (c :: r) = .ok (n * 128 + c, r) := by rw [vlq, if_pos h]
theorem vlq_hi {i : Nat} {n c : Int} {r : List Int} (h : ¬ c < 128) : vlq (i + 1) n (c :: r) = vlq i (n * 128 + (c - 128)) r := by rw [vlq, if_neg h]
theorem num1 {n : Int} (h0 : 0 ≤ n) (h : n < 128) : num n = [n] := by
  unfold num part
  rw [if_neg (by omega), if_neg (by omega), if_neg (by omega)]
  simp only [List.nil_append]
  congr 1; omega
theorem num2 {n : Int} (h0 : 128 ≤ n) (h : n < 16384) : num n = [n / 128 + 128, n % 128] := by
  unfold num part
  rw [if_neg (by omega), if_neg (by omega), if_pos (by omega)]
  simp only [List.nil_append, List.cons_append]
  congr 1; omega
theorem num3 {n : Int} (h0 : 16384 ≤ n) (h : n < 2097152) : num n = [n / 16384 + 128, n / 128 % 128 + 128, n % 128] := by
  unfold num part
  rw [if_neg (by omega), if_pos (by omega), if_pos (by omega)]
  simp only [List.nil_append, List.cons_append]
  congr 1; omega
theorem num4 {n : Int} (h0 : 2097152 ≤ n) (h : n ≤ 268435455) : num n = [n / 2097152 + 128, n / 16384 % 128 + 128, n / 128 % 128 + 128, n % 128] := by
  unfold num part
  rw [if_pos (by omega), if_pos (by omega), if_pos (by omega)]
  simp only [List.nil_append, List.cons_append]
  congr 1; omega
theorem num_len (n : Int) : 1 ≤ (num n).length ∧ (num n).length ≤ 4 := by
  unfold num part
  split <;> split <;> split <;> simp
theorem num_bytes {n : Int} (h0 : 0 ≤ n) : Bytes (num n) := by
  unfold num part
  have h1 := Int.emod_nonneg (n / 2097152) (b := 128) (by decide)
  have h2 := Int.emod_lt_of_pos (n / 2097152) (b := 128) (by decide)
  have h3 := Int.emod_nonneg (n / 16384) (b := 128) (by decide)
  have h4 := Int.emod_lt_of_pos (n / 16384) (b := 128) (by decide)
  have h5 := Int.emod_nonneg (n / 128) (b := 128) (by decide)
  have h6 := Int.emod_lt_of_pos (n / 128) (b := 128) (by decide)
  have h7 := Int.emod_nonneg n (b := 128) (by decide)
  have h8 := Int.emod_lt_of_pos n (b := 128) (by decide)
  refine Bytes.append (Bytes.append (Bytes.append ?_ ?_) ?_) (Bytes.cons (by omega) (by omega) Bytes.nil)
  all_goals
    split
    · exact Bytes.cons (by omega) (by omega) Bytes.nil
    · exact Bytes.nil
theorem vlq_num {n : Int} (h0 : 0 ≤ n) (h1 : n ≤ 268435455) (r : List Int) : vlq 4 0 (num n ++ r) = .ok (n, r) := by
  by_cases a : n < 128
  · rw [num1 h0 a, List.singleton_append, vlq_lo a]
    congr 2; omega
  · by_cases b : n < 16384
    · rw [num2 (by omega) b]
      simp only [List.cons_append, List.nil_append]
      rw [vlq_hi (by omega), vlq_lo (by omega)]
      congr 2; omega
    · by_cases c : n < 2097152
      · rw [num3 (by omega) c]
        simp only [List.cons_append, List.nil_append]
        rw [vlq_hi (by omega), vlq_hi (by omega), vlq_lo (by omega)]
        congr 2; omega
      · rw [num4 (by omega) h1]
        simp only [List.cons_append, List.nil_append]
        rw [vlq_hi (by omega), vlq_hi (by omega), vlq_hi (by omega), vlq_lo (by omega)]
        congr 2; omega
theorem vlq_ok : ∀ {i : Nat} {n m : Int} {r r' : List Int}, Bytes r → vlq i n r = .ok (m, r') → ∃ p : List Int, r = p ++ r' ∧ 1 ≤ p.length ∧ p.length ≤ i ∧ n * 128 ^ p.length ≤ m ∧ m < (n + 1) * 128 ^ p.length
  | 0, _, _, _, _, _, h => by cases h
  | i + 1, n, m, [], r', _, h => by cases h
  | i + 1, n, m, c :: r, r', hb, h => by
    have hc := hb.head
    by_cases hlt : c < 128
    · rw [vlq_lo hlt] at h
      injection h with h
      injection h with h1 h2
      subst h1 h2
      exact ⟨[c], rfl, by simp, by simp, by simp; omega, by simp; omega⟩
    · rw [vlq_hi hlt] at h
      obtain ⟨p, rfl, hp1, hp2, hlo, hhi⟩ := vlq_ok hb.tail h
      refine ⟨c :: p, rfl, by simp, by simp; omega, ?_, ?_⟩
      · rw [List.length_cons, Int.pow_succ]
        have hpos : (0 : Int) < 128 ^ p.length := Int.pow_pos (by decide)
        have := Int.mul_le_mul_of_nonneg_right (show n * 128 ≤ n * 128 + (c - 128) by omega) (Int.le_of_lt hpos)
        have e : n * (128 ^ p.length * 128) = n * 128 * 128 ^ p.length := by rw [Int.mul_comm (128 ^ p.length) 128, Int.mul_assoc]
        omega
      · rw [List.length_cons, Int.pow_succ]
        have hpos : (0 : Int) < 128 ^ p.length := Int.pow_pos (by decide)
        have := Int.mul_le_mul_of_nonneg_right (show n * 128 + (c - 128) + 1 ≤ (n + 1) * 128 by omega) (Int.le_of_lt hpos)
        have e : (n + 1) * (128 ^ p.length * 128) = (n + 1) * 128 * 128 ^ p.length := by rw [Int.mul_comm (128 ^ p.length) 128, Int.mul_assoc]
        omega
theorem vlq4_ok {m : Int} {r r' : List Int} (hb : Bytes r) (h : vlq 4 0 r = .ok (m, r')) : 0 ≤ m ∧ m ≤ 268435455 ∧ ∃ p : List Int, r = p ++ r' ∧ (num m).length ≤ p.length := by
  obtain ⟨p, rfl, h1, h2, h3, h4⟩ := vlq_ok hb h
  rw [Int.zero_mul] at h3
  rw [Int.zero_add, Int.one_mul] at h4
  have hl : p.length = 1 ∨ p.length = 2 ∨ p.length = 3 ∨ p.length = 4 := by omega
  rcases hl with e | e | e | e <;> rw [e] at h4 <;> simp at h4 <;> refine ⟨h3, by omega, p, rfl, ?_⟩
  · rw [num1 h3 (by omega), e]; simp
  · by_cases a : m < 128
    · rw [num1 h3 a, e]; simp
    · rw [num2 (by omega) (by omega), e]; simp
  · by_cases a : m < 128
    · rw [num1 h3 a, e]; simp
    · by_cases b : m < 16384
      · rw [num2 (by omega) b, e]; simp
      · rw [num3 (by omega) (by omega), e]; simp
  · rw [e]; exact (num_len m).2
theorem vlq_e : ∀ {i : Nat} {n e : Int} {r : List Int}, vlq i n r = .error e → e = 150 ∨ e = 152
  | 0, _, _, _, h => by cases h; exact .inl rfl
  | i + 1, n, e, [], h => by cases h; exact .inr rfl
  | i + 1, n, e, c :: r, h => by
    by_cases hlt : c < 128
    · rw [vlq_lo hlt] at h; cases h
    · rw [vlq_hi hlt] at h
      exact vlq_e h
def low : List Int → Except Int (Int × List Int)
  | [] => .error 152
  | c :: r => if c ≥ 128 then .error 151 else .ok (c, r)
def dat (r : List Int) : Except Int (List Int × List Int) :=
  match vlq 4 0 r with
  | .error e => .error e
  | .ok (n, r1) => if n > 100000 then .error 151 else if n > r1.length then .error 152 else .ok (r1.take n.toNat, r1.drop n.toNat)
def body (d c : Int) (r : List Int) : Except Int (Msg × Int × List Int) :=
  if c = 255 then
    match low r with
    | .error e => .error e
    | .ok (a, r1) => match dat r1 with
      | .error e => .error e
      | .ok (bs, r2) => .ok (⟨d, 16, 0, a, 0, strOfNums bs⟩, 0, r2)
  else if c ≥ 240 then
    match dat r with
    | .error e => .error e
    | .ok (bs, r2) => .ok (⟨d, 15, 0, c, 0, strOfNums bs⟩, 0, r2)
  else
    match low r with
    | .error e => .error e
    | .ok (a, r1) => if c / 16 = 12 ∨ c / 16 = 13 then .ok (⟨d, c / 16, c % 16, a, 0, ⟨#[]⟩⟩, c, r1) else
      match low r1 with
      | .error e => .error e
      | .ok (b, r2) => .ok (⟨d, c / 16, c % 16, a, b, ⟨#[]⟩⟩, c, r2)
def msg (last : Int) (r : List Int) : Except Int (Msg × Int × List Int) :=
  match vlq 4 0 r with
  | .error e => .error e
  | .ok (_, []) => .error 152
  | .ok (d, c :: r1) => if c < 128 then (if last = 0 then .error 151 else body d last (c :: r1)) else if c > 240 ∧ c ≠ 247 ∧ c ≠ 255 then .error 151 else body d c r1
inductive Dec : Int → List Int → List Msg → Prop
  | nil (l : Int) : Dec l [] []
  | cons {l l' : Int} {r r' : List Int} {m : Msg} {ms : List Msg} : msg l r = .ok (m, l', r') → Dec l' r' ms → Dec l r (m :: ms)
inductive Bad : Int → List Int → Int → Nat → Prop
  | here {l e : Int} {r : List Int} : r ≠ [] → msg l r = .error e → Bad l r e r.length
  | later {l l' e : Int} {r r' : List Int} {m : Msg} {n : Nat} : msg l r = .ok (m, l', r') → Bad l' r' e n → Bad l r e n
def Right (m : Msg) : Prop := 0 ≤ m.f0 ∧ m.f0 ≤ 268435455 ∧ m.f5.size ≤ 100000 ∧
  ((8 ≤ m.f1 ∧ m.f1 ≤ 14 ∧ 0 ≤ m.f2 ∧ m.f2 ≤ 15 ∧ 0 ≤ m.f3 ∧ m.f3 ≤ 127 ∧ 0 ≤ m.f4 ∧ m.f4 ≤ 127 ∧ (m.f1 = 12 ∨ m.f1 = 13 → m.f4 = 0) ∧ m.f5.size = 0) ∨
   (m.f1 = 15 ∧ m.f2 = 0 ∧ m.f4 = 0 ∧ (m.f3 = 240 ∨ m.f3 = 247)) ∨ (m.f1 = 16 ∧ m.f2 = 0 ∧ m.f4 = 0 ∧ 0 ≤ m.f3 ∧ m.f3 ≤ 127))
instance (m : Msg) : Decidable (Right m) := by unfold Right; infer_instance
def encOne (l : Int) (m : Msg) : List Int :=
  if m.f1 = 16 then num m.f0 ++ (255 :: m.f3 :: (num m.f5.size ++ bytesOf m.f5))
  else if m.f1 = 15 then num m.f0 ++ (m.f3 :: (num m.f5.size ++ bytesOf m.f5))
  else num m.f0 ++ ((if 16 * m.f1 + m.f2 = l then [] else [16 * m.f1 + m.f2]) ++ (m.f3 :: (if m.f1 = 12 ∨ m.f1 = 13 then [] else [m.f4])))
def nextL (m : Msg) : Int := if m.f1 = 16 then 0 else if m.f1 = 15 then 0 else 16 * m.f1 + m.f2
def enc : Int → List Msg → List Int
  | _, [] => []
  | l, m :: ms => encOne l m ++ enc (nextL m) ms
end Go.Proofs.YtdmnknhlibaaoaaDoor.Z
namespace Go.Proofs.YtdmnknhlibaaoaaDoor.Z
open Go.RowKit Go.Proofs.YtdmnknhlibaaoaaDoorW.PrintWords Go.Proofs.YtdmnknhlibaaoaaDoor.M
set_option linter.unusedVariables false
theorem low_lo {c : Int} {r : List Int} (h : c < 128) : low (c :: r) = .ok (c, r) := by rw [low, if_neg (by omega)]
theorem low_ok {a : Int} {r r' : List Int} (h : low r = .ok (a, r')) : r = a :: r' ∧ a < 128 := by
  cases r with
  | nil => cases h
  | cons c r =>
    by_cases hc : c ≥ 128
    · rw [low, if_pos hc] at h; cases h
    · rw [low, if_neg hc] at h
      injection h with h
      injection h with h1 h2
      subst h1 h2
      exact ⟨rfl, by omega⟩
theorem dat_num {n : Int} {bs r : List Int} (h1 : n ≤ 100000) (hn : n = bs.length) : dat (num n ++ (bs ++ r)) = .ok (bs, r) := by
  unfold dat
  rw [vlq_num (by omega) (by omega)]
  dsimp only
  rw [if_neg (by omega), if_neg (by rw [List.length_append]; omega)]
  have e : n.toNat = bs.length := by omega
  rw [e, List.take_left, List.drop_left]
theorem dat_ok {bs r r' : List Int} (hb : Bytes r) (h : dat r = .ok (bs, r')) : (bs.length : Int) ≤ 100000 ∧ Bytes bs ∧ ∃ p, r = p ++ (bs ++ r') ∧ (num bs.length).length ≤ p.length := by
  unfold dat at h
  cases hv : vlq 4 0 r with
  | error e => rw [hv] at h; cases h
  | ok x =>
    obtain ⟨n, r1⟩ := x
    rw [hv] at h
    dsimp only at h
    obtain ⟨h0, _, p, hp, hl⟩ := vlq4_ok hb hv
    by_cases c1 : n > 100000
    · rw [if_pos c1] at h; cases h
    · rw [if_neg c1] at h
      by_cases c2 : n > r1.length
      · rw [if_pos c2] at h; cases h
      · rw [if_neg c2] at h
        injection h with h
        injection h with e1 e2
        subst e1 e2
        have hb1 : Bytes r1 := by rw [hp] at hb; exact hb.right
        have hlen : ((r1.take n.toNat).length : Int) = n := by rw [List.length_take]; omega
        refine ⟨by omega, hb1.take _, p, by rw [List.take_append_drop]; exact hp, by rw [hlen]; exact hl⟩
theorem body_255 (d : Int) (r : List Int) : body d 255 r = (match low r with
    | .error e => .error e
    | .ok (a, r1) => match dat r1 with
      | .error e => .error e
      | .ok (bs, r2) => .ok (⟨d, 16, 0, a, 0, strOfNums bs⟩, 0, r2)) := by (unfold body; rw [if_pos rfl]) <;> rfl
theorem body_sys {c : Int} (h : c ≠ 255) (h2 : c ≥ 240) (d : Int) (r : List Int) : body d c r = (match dat r with
    | .error e => .error e
    | .ok (bs, r2) => .ok (⟨d, 15, 0, c, 0, strOfNums bs⟩, 0, r2)) := by (unfold body; rw [if_neg h, if_pos h2]) <;> rfl
theorem body_key {c : Int} (h2 : c < 240) (d : Int) (r : List Int) : body d c r = (match low r with
    | .error e => .error e
    | .ok (a, r1) => if c / 16 = 12 ∨ c / 16 = 13 then .ok (⟨d, c / 16, c % 16, a, 0, ⟨#[]⟩⟩, c, r1) else
      match low r1 with
      | .error e => .error e
      | .ok (b, r2) => .ok (⟨d, c / 16, c % 16, a, b, ⟨#[]⟩⟩, c, r2)) := by (unfold body; rw [if_neg (by omega), if_neg (by omega)]) <;> rfl
theorem msg_at {l d c : Int} {r r1 : List Int} (h : vlq 4 0 r = .ok (d, c :: r1)) : msg l r = (if c < 128 then (if l = 0 then .error 151 else body d l (c :: r1)) else if c > 240 ∧ c ≠ 247 ∧ c ≠ 255 then .error 151 else body d c r1) := by
  unfold msg; rw [h]
theorem msg_enc {m : Msg} (hm : Right m) {l l' : Int} (hl : l' = l ∨ l' = 0) (r : List Int) : msg l (encOne l' m ++ r) = .ok (m, nextL m, r) := by
  obtain ⟨f0, f1, f2, f3, f4, f5⟩ := m
  obtain ⟨h0, h1, h2, h⟩ := hm
  dsimp only at h0 h1 h2 h
  unfold encOne nextL
  dsimp only
  rcases h with ⟨k1, k2, k3, k4, k5, k6, k7, k8, k9, k10⟩ | ⟨rfl, rfl, rfl, k⟩ | ⟨rfl, rfl, rfl, k1, k2⟩
  · have hf5 := eq_nil_of_size k10
    subst hf5
    rw [if_neg (show ¬ f1 = 16 by omega), if_neg (show ¬ f1 = 15 by omega), if_neg (show ¬ f1 = 16 by omega), if_neg (show ¬ f1 = 15 by omega)]
    have hk : ∀ t, body f0 (16 * f1 + f2) ((f3 :: (if f1 = 12 ∨ f1 = 13 then [] else [f4])) ++ t) = .ok (⟨f0, f1, f2, f3, f4, ⟨#[]⟩⟩, 16 * f1 + f2, t) := by
      intro t
      have e1 : (16 * f1 + f2) / 16 = f1 := by omega
      have e2 : (16 * f1 + f2) % 16 = f2 := by omega
      rw [body_key (by omega), List.cons_append, low_lo (by omega)]
      dsimp only
      rw [e1, e2]
      by_cases c : f1 = 12 ∨ f1 = 13
      · rw [if_pos c, if_pos c]
        have := k9 c
        subst this
        rfl
      · rw [if_neg c, if_neg c, List.singleton_append, low_lo (by omega)]
    by_cases c : 16 * f1 + f2 = l'
    · have hl' : l' = l := by omega
      rw [if_pos c, List.nil_append, List.append_assoc]
      have hv := vlq_num h0 h1 ((f3 :: (if f1 = 12 ∨ f1 = 13 then [] else [f4])) ++ r)
      rw [List.cons_append] at hv
      rw [List.cons_append, msg_at hv, if_pos (by omega), if_neg (by omega), ← List.cons_append, ← hl', ← c]
      exact hk r
    · rw [if_neg c, List.append_assoc, List.append_assoc]
      rw [List.singleton_append]
      rw [msg_at (vlq_num h0 h1 _), if_neg (by omega), if_neg (by omega)]
      exact hk r
  · rw [if_neg (show ¬ (15 : Int) = 16 by decide), if_pos rfl, if_neg (show ¬ (15 : Int) = 16 by decide), if_pos rfl]
    rw [List.append_assoc, List.cons_append, List.append_assoc]
    rw [msg_at (vlq_num h0 h1 _), if_neg (by omega), if_neg (by omega), body_sys (by omega) (by omega)]
    rw [dat_num (by omega) (by rw [bytesOf_length])]
    dsimp only
    rw [str_bytesOf]
  · rw [if_pos rfl, if_pos rfl]
    rw [List.append_assoc, List.cons_append, List.cons_append, List.append_assoc]
    rw [msg_at (vlq_num h0 h1 _), if_neg (by omega), if_neg (by omega), body_255, low_lo (by omega)]
    dsimp only
    rw [dat_num (by omega) (by rw [bytesOf_length])]
    dsimp only
    rw [str_bytesOf]
def LastOk (l : Int) : Prop := l = 0 ∨ 128 ≤ l ∧ l < 240
theorem nextL_ok {m : Msg} (hm : Right m) : LastOk (nextL m) := by
  obtain ⟨f0, f1, f2, f3, f4, f5⟩ := m
  obtain ⟨h0, h1, h2, h⟩ := hm
  unfold nextL LastOk
  dsimp only at h ⊢
  split
  · exact .inl rfl
  · split
    · exact .inl rfl
    · omega
theorem body_key_ok {d c : Int} {r r' : List Int} {m : Msg} {l' : Int} (hd0 : 0 ≤ d) (hd1 : d ≤ 268435455) (hb : Bytes r) (h1 : 128 ≤ c) (h2 : c < 240) (h : body d c r = .ok (m, l', r')) :
    Right m ∧ l' = nextL m ∧ m.f0 = d ∧ m.f1 ≠ 16 ∧ m.f1 ≠ 15 ∧ 16 * m.f1 + m.f2 = c ∧ ∃ p, r = p ++ r' ∧ p = m.f3 :: (if m.f1 = 12 ∨ m.f1 = 13 then [] else [m.f4]) := by
  rw [body_key h2] at h
  cases hl : low r with
  | error e => rw [hl] at h; cases h
  | ok x =>
    obtain ⟨a, r1⟩ := x
    rw [hl] at h
    dsimp only at h
    obtain ⟨rfl, ha⟩ := low_ok hl
    have ha0 := hb.head
    by_cases c3 : c / 16 = 12 ∨ c / 16 = 13
    · rw [if_pos c3] at h
      injection h with h; injection h with e1 h; injection h with e2 e3; subst e1 e2 e3
      refine ⟨⟨hd0, hd1, by show (⟨#[]⟩ : ByteArray).size ≤ 100000; rw [size_nil]; omega, .inl ?_⟩, ?_, rfl, ?_, ?_, ?_, [a], rfl, ?_⟩
      · exact ⟨qqz, qqz, qqz, qqz, qqz, qqz, qqz, qqz, fun _ => rfl, rfl⟩
      · unfold nextL; dsimp only; rw [if_neg (by omega), if_neg (by omega)]; omega
      · dsimp only; omega
      · dsimp only; omega
      · dsimp only; omega
      · dsimp only; rw [if_pos c3]
    · rw [if_neg c3] at h
      cases hl2 : low r1 with
      | error e => rw [hl2] at h; cases h
      | ok y =>
        obtain ⟨b, r2⟩ := y
        rw [hl2] at h
        dsimp only at h
        obtain ⟨rfl, hb2⟩ := low_ok hl2
        have hb0 := hb.tail.head
        injection h with h; injection h with e1 h; injection h with e2 e3; subst e1 e2 e3
        refine ⟨⟨hd0, hd1, by show (⟨#[]⟩ : ByteArray).size ≤ 100000; rw [size_nil]; omega, .inl ?_⟩, ?_, rfl, ?_, ?_, ?_, [a, b], rfl, ?_⟩
        · exact ⟨qqz, qqz, qqz, qqz, qqz, qqz, qqz, qqz, fun hh => absurd hh c3, rfl⟩
        · unfold nextL; dsimp only; rw [if_neg (by omega), if_neg (by omega)]; omega
        · dsimp only; omega
        · dsimp only; omega
        · dsimp only; omega
        · dsimp only; rw [if_neg c3]
theorem msg_ok {l l' : Int} {r r' : List Int} {m : Msg} (hl : LastOk l) (hb : Bytes r) (h : msg l r = .ok (m, l', r')) :
    Right m ∧ l' = nextL m ∧ ∃ p, r = p ++ r' ∧ (encOne l m).length ≤ p.length ∧ 1 ≤ p.length := by
  cases hv : vlq 4 0 r with
  | error e => unfold msg at h; rw [hv] at h; cases h
  | ok x =>
    obtain ⟨d, r1⟩ := x
    cases r1 with
    | nil => unfold msg at h; rw [hv] at h; cases h
    | cons c r1 =>
      rw [msg_at hv] at h
      obtain ⟨hd0, hd1, p, rfl, hp⟩ := vlq4_ok hb hv
      have hnl := (num_len d).1
      have hb1 : Bytes (c :: r1) := hb.right
      have hc := hb1.head
      by_cases c1 : c < 128
      · rw [if_pos c1] at h
        by_cases c2 : l = 0
        · rw [if_pos c2] at h; cases h
        · rw [if_neg c2] at h
          have hl2 : 128 ≤ l ∧ l < 240 := by rcases hl with hl | hl <;> omega
          obtain ⟨hr, hn, hf0, hk1, hk2, hst, q, hq, hqe⟩ := body_key_ok hd0 hd1 hb1 hl2.1 hl2.2 h
          refine ⟨hr, hn, p ++ q, by rw [hq, List.append_assoc], ?_, by rw [List.length_append]; omega⟩
          unfold encOne
          rw [if_neg hk1, if_neg hk2, if_pos hst, hf0, hqe]
          simp only [List.length_append, List.nil_append]
          omega
      · rw [if_neg c1] at h
        by_cases c2 : c > 240 ∧ c ≠ 247 ∧ c ≠ 255
        · rw [if_pos c2] at h; cases h
        · rw [if_neg c2] at h
          by_cases c3 : c < 240
          · obtain ⟨hr, hn, hf0, hk1, hk2, hst, q, hq, hqe⟩ := body_key_ok hd0 hd1 hb1.tail (by omega) c3 h
            refine ⟨hr, hn, p ++ (c :: q), by rw [hq, List.append_assoc, List.cons_append], ?_, qqK⟩
            unfold encOne
            rw [if_neg hk1, if_neg hk2, hf0, hqe]
            simp only [List.length_append, List.length_cons]
            split <;> simp <;> omega
          · by_cases c4 : c = 255
            · subst c4
              rw [body_255] at h
              cases hlo : low r1 with
              | error e => rw [hlo] at h; cases h
              | ok x =>
                obtain ⟨a, r2⟩ := x
                rw [hlo] at h
                dsimp only at h
                obtain ⟨rfl, ha⟩ := low_ok hlo
                have ha0 := hb1.tail.head
                cases hda : dat r2 with
                | error e => rw [hda] at h; cases h
                | ok y =>
                  obtain ⟨bs, r3⟩ := y
                  rw [hda] at h
                  dsimp only at h
                  obtain ⟨hbl, hbb, q, rfl, hq⟩ := dat_ok hb1.tail.tail hda
                  injection h with h; injection h with e1 h; injection h with e2 e3; subst e1 e2 e3
                  refine ⟨⟨hd0, hd1, by show (strOfNums bs).size ≤ 100000; rw [str_size]; omega, .inr (.inr ⟨rfl, rfl, rfl, ha0.1, by show a ≤ 127; omega⟩)⟩, rfl, p ++ (255 :: a :: (q ++ bs)), by simp [List.append_assoc], ?_, qqK⟩
                  unfold encOne
                  rw [if_pos rfl, str_size, bytesOf_str hbb]
                  simp only [List.length_append, List.length_cons]
                  omega
            · rw [body_sys c4 (by omega)] at h
              cases hda : dat r1 with
              | error e => rw [hda] at h; cases h
              | ok y =>
                obtain ⟨bs, r3⟩ := y
                rw [hda] at h
                dsimp only at h
                obtain ⟨hbl, hbb, q, rfl, hq⟩ := dat_ok hb1.tail hda
                injection h with h; injection h with e1 h; injection h with e2 e3; subst e1 e2 e3
                refine ⟨⟨hd0, hd1, by show (strOfNums bs).size ≤ 100000; rw [str_size]; omega, .inr (.inl ⟨rfl, rfl, rfl, by show c = 240 ∨ c = 247; omega⟩)⟩, rfl, p ++ (c :: (q ++ bs)), by simp [List.append_assoc], ?_, qqK⟩
                unfold encOne
                rw [if_neg (by show ¬ (15 : Int) = 16; decide), if_pos rfl, str_size, bytesOf_str hbb]
                simp only [List.length_append, List.length_cons]
                omega
end Go.Proofs.YtdmnknhlibaaoaaDoor.Z
namespace Go.Proofs.YtdmnknhlibaaoaaDoor.Z
open Go.RowKit Go.Proofs.YtdmnknhlibaaoaaDoorW.PrintWords Go.Proofs.YtdmnknhlibaaoaaDoor.M
set_option linter.unusedVariables false
def Rights (ms : List Msg) : Prop := ∀ m ∈ ms, Right m
theorem Rights.nil : Rights [] := by intro m h; cases h
theorem Rights.head {m : Msg} {ms : List Msg} (h : Rights (m :: ms)) : Right m := h m (by simp)
theorem Rights.tail {m : Msg} {ms : List Msg} (h : Rights (m :: ms)) : Rights ms := fun x hx => h x (by simp [hx])
theorem Rights.cons {m : Msg} {ms : List Msg} (h : Right m) (k : Rights ms) : Rights (m :: ms) := by
  intro x hx
  rcases List.mem_cons.1 hx with rfl | hx
  · exact h
  · exact k x hx
def lastOf : Int → List Msg → Int
  | l, [] => l
  | _, m :: ms => lastOf (nextL m) ms
theorem enc_nil (l : Int) : enc l [] = [] := rfl
theorem enc_cons (l : Int) (m : Msg) (ms : List Msg) : enc l (m :: ms) = encOne l m ++ enc (nextL m) ms := rfl
theorem dec_enc : ∀ {ms : List Msg} {l l' : Int} {r : List Int} {ns : List Msg}, Rights ms → (l' = l ∨ l' = 0) → Dec (lastOf l ms) r ns → Dec l (enc l' ms ++ r) (ms ++ ns)
  | [], _, _, _, _, _, _, h => h
  | m :: ms, l, l', r, ns, hr, hl, h => by
    rw [enc_cons, List.append_assoc, List.cons_append]
    exact .cons (msg_enc hr.head hl _) (dec_enc hr.tail (.inl rfl) h)
theorem dec_enc0 {ms : List Msg} {l l' : Int} (hr : Rights ms) (hl : l' = l ∨ l' = 0) : Dec l (enc l' ms) ms := by
  have h := dec_enc hr hl (.nil (lastOf l ms))
  rwa [List.append_nil, List.append_nil] at h
theorem enc_dec : ∀ {ms : List Msg} {l : Int} {r : List Int}, LastOk l → Bytes r → Dec l r ms → Rights ms ∧ (enc l ms).length ≤ r.length ∧ ms.length ≤ r.length
  | _, _, _, _, _, .nil _ => ⟨.nil, Nat.le_refl _, Nat.le_refl _⟩
  | _, _, _, hl, hb, .cons hm hd => by
    obtain ⟨h1, rfl, p, rfl, h2, h3⟩ := msg_ok hl hb hm
    obtain ⟨k1, k2, k3⟩ := enc_dec (nextL_ok h1) hb.right hd
    refine ⟨.cons h1 k1, ?_, ?_⟩
    · rw [enc_cons, List.length_append, List.length_append]; omega
    · rw [List.length_append, List.length_cons]; omega
theorem bad_len {l e : Int} {r : List Int} {k : Nat} (h : Bad l r e k) : LastOk l → Bytes r → 0 < k ∧ k ≤ r.length := by
  induction h with
  | here hne _ => exact fun _ _ => ⟨List.length_pos_iff.2 hne, Nat.le_refl _⟩
  | later hm _ ih =>
    intro hl hby
    obtain ⟨h1, rfl, p, rfl, h2, h3⟩ := msg_ok hl hby hm
    have := ih (nextL_ok h1) hby.right
    rw [List.length_append]
    omega
end Go.Proofs.YtdmnknhlibaaoaaDoor.Z
namespace Go.Proofs.YtdmnknhlibaaoaaDoor.Z
open Go.RowKit Go.Proofs.YtdmnknhlibaaoaaDoorW.PrintWords Go.Proofs.YtdmnknhlibaaoaaDoorW.PrintLast Go.Proofs.YtdmnknhlibaaoaaDoor.M
set_option linter.unusedVariables false
theorem number_f {n : Int} (h0 : 0 ≤ n) (h1 : n ≤ 268435455) : wire_number.f n = some (num n) := by
  unfold wire_number.f
  rw [if_pos h0, if_pos h1]
  rfl
theorem counts_f (n : Int) : wire_counts.f n = some (decide (0 ≤ n ∧ n ≤ 268435455)) := by
  unfold wire_counts.f
  by_cases h : n ≥ 0
  · rw [if_pos h]
    congr 1
    rw [Bool.eq_iff_iff, decide_eq_true_eq, decide_eq_true_eq]
    omega
  · rw [if_neg h]
    congr 1
    rw [Bool.eq_iff_iff, decide_eq_true_eq]
    constructor
    · intro h; cases h
    · omega
def vlqAns (s : ByteArray) (r : List Int) (j : Nat) (n : Int) : Int × Int × Int :=
  match vlq j n r with
  | .error e => (0, 0, e)
  | .ok (m, r') => (m, s.size - r'.length, 0)
theorem rv_l0 (s : ByteArray) (a : Int) (h0 : 0 ≤ a) (hs : s.size ≤ 140737488351232) : ∀ (j : Nat) (n : Int) (k : Nat), j ≤ 4 → j < k → 0 ≤ n → (n + 1) * 128 ^ j ≤ 268435456 → a + (4 - j) ≤ s.size →
    wire_ReadVlq.l0 k s a n (4 - j) = some (vlqAns s ((bytesOf s).drop (a + (4 - j)).toNat) j n)
  | 0, n, k, _, hk, _, _, _ => by
    obtain ⟨k, rfl⟩ : ∃ m, k = m + 1 := ⟨k - 1, by omega⟩
    simp only [wire_ReadVlq.l0]
    rw [if_neg (by omega)]
    rfl
  | j + 1, n, k, hj, hk, hn, hb, hp => by
    obtain ⟨k, rfl⟩ : ∃ m, k = m + 1 := ⟨k - 1, by omega⟩
    have e1 : wrap64 (a + (4 - ((j + 1 : Nat) : Int))) = a + (4 - ((j + 1 : Nat) : Int)) := w64 (by omega) (by omega)
    simp only [wire_ReadVlq.l0]
    rw [if_pos (by omega), e1]
    have hp2 : (1 : Int) ≤ 128 ^ j := by
      have : (0 : Int) < 128 ^ j := Int.pow_pos (by decide)
      omega
    have hb2 : n + 1 ≤ 268435456 ∧ (n + 1) * 128 * 128 ^ j ≤ 268435456 := by
      rw [Int.pow_succ, Int.mul_comm (128 ^ j) 128, ← Int.mul_assoc] at hb
      refine ⟨?_, hb⟩
      have := Int.mul_le_mul_of_nonneg_left hp2 (show 0 ≤ (n + 1) * 128 by omega)
      omega
    by_cases c1 : a + (4 - ((j + 1 : Nat) : Int)) ≥ (s.size : Int)
    · rw [if_pos c1]
      unfold vlqAns
      rw [drop_end s _ (by omega), vlq_nil]
    · have hr := bt_range s (a + (4 - ((j + 1 : Nat) : Int)))
      have e2 : wrap64 (bt s (a + (4 - ((j + 1 : Nat) : Int)))) = bt s (a + (4 - ((j + 1 : Nat) : Int))) := w64 (by omega) (by omega)
      have e3 : wrap64 (n * 128) = n * 128 := w64 (by omega) (by omega)
      rw [if_neg c1, if_pos (by omega), if_pos (by omega), e2, e3]
      unfold vlqAns
      rw [drop_at s _ (by omega) (by omega)]
      generalize hc : bt s (a + (4 - ((j + 1 : Nat) : Int))) = c at *
      by_cases c2 : c < 128
      · rw [if_pos c2, vlq_lo c2]
        have e4 : Int.tmod c 128 = c := by rw [Int.tmod_eq_emod_of_nonneg hr.1]; omega
        rw [e4, w64 (by omega) (by omega), w64 (by omega) (by omega)]
        have hl := drop_len s (a + (4 - ((j + 1 : Nat) : Int)) + 1) (by omega) (by omega)
        dsimp only
        rw [hl]
        congr 2
        congr 1
        omega
      · rw [if_neg c2, vlq_hi c2]
        have e4 : Int.tmod c 128 = c - 128 := by rw [Int.tmod_eq_emod_of_nonneg hr.1]; omega
        rw [e4, w64 (by omega) (by omega), w64 (by omega) (by omega)]
        have hb3 : (n * 128 + (c - 128) + 1) * 128 ^ j ≤ 268435456 := by
          have := Int.mul_le_mul_of_nonneg_right (show n * 128 + (c - 128) + 1 ≤ (n + 1) * 128 by omega) (show (0 : Int) ≤ 128 ^ j by omega)
          omega
        have ih := rv_l0 s a h0 hs j (n * 128 + (c - 128)) k (by omega) (by omega) (by omega) hb3 (by omega)
        have e5 : (4 - ((j + 1 : Nat) : Int)) + 1 = 4 - (j : Int) := by omega
        have e6 : a + (4 - ((j + 1 : Nat) : Int)) + 1 = a + (4 - (j : Int)) := by omega
        rw [e5, ih, e6]
        rfl
theorem readVlq_f (s : ByteArray) (a : Int) (k : Nat) (hk : 7 ≤ k) (h0 : 0 ≤ a) (h1 : a ≤ s.size) (hs : s.size ≤ 140737488351232) :
    wire_ReadVlq.f k s a = some (vlqAns s ((bytesOf s).drop a.toNat) 4 0) := by
  unfold wire_ReadVlq.f
  rw [if_neg (by omega)]
  obtain ⟨k, rfl⟩ : ∃ m, k = m + 1 := ⟨k - 1, by omega⟩
  simp only [wire_ReadVlq.j0]
  rw [if_neg (by rw [decide_eq_true_eq]; omega)]
  have h := rv_l0 s a h0 hs 4 0 k (by omega) (by omega) (by omega) (by decide) (by omega)
  have e : (4 : Int) - ((4 : Nat) : Int) = 0 := by omega
  rw [e, Int.add_zero] at h
  exact h
theorem within_f (a b c : Int) : wire_within.f a b c = some (decide (b ≤ a ∧ a ≤ c)) := by
  unfold wire_within.f
  by_cases h : a ≥ b
  · rw [if_pos h]
    congr 1
    rw [Bool.eq_iff_iff, decide_eq_true_eq, decide_eq_true_eq]
    omega
  · rw [if_neg h]
    congr 1
    rw [Bool.eq_iff_iff, decide_eq_true_eq]
    constructor
    · intro h; cases h
    · omega
theorem one_f (a : Int) : wire_one.f a = some (decide (a = 12 ∨ a = 13)) := by
  unfold wire_one.f
  by_cases h : a = 12
  · rw [if_pos h]; simp [h]
  · rw [if_neg h]
    congr 1
    rw [Bool.eq_iff_iff, decide_eq_true_eq, beq_iff_eq]
    omega
theorem ite_to {α : Type} {p : Prop} [Decidable p] {a b c : α} (h1 : p → a = c) (h2 : ¬ p → b = c) : (if p then a else b) = c := by
  by_cases h : p
  · rw [if_pos h]; exact h1 h
  · rw [if_neg h]; exact h2 h
set_option maxHeartbeats 1000000 in
theorem right_f (m : Msg) (k : Nat) (hk : 6 ≤ k) : wire_Right.f k m.f0 m.f1 m.f2 m.f3 m.f4 m.f5 = some (decide (Right m)) := by
  obtain ⟨f0, f1, f2, f3, f4, f5⟩ := m
  obtain ⟨k, rfl⟩ : ∃ q, k = q + 6 := ⟨k - 6, by omega⟩
  have hd := toList_nil f5
  generalize hD : decide (Right ⟨f0, f1, f2, f3, f4, f5⟩) = D
  have hR : D = true ↔ (0 ≤ f0 ∧ f0 ≤ 268435455 ∧ f5.size ≤ 100000 ∧ ((8 ≤ f1 ∧ f1 ≤ 14 ∧ 0 ≤ f2 ∧ f2 ≤ 15 ∧ 0 ≤ f3 ∧ f3 ≤ 127 ∧ 0 ≤ f4 ∧ f4 ≤ 127 ∧ (f1 = 12 ∨ f1 = 13 → f4 = 0) ∧ f5.size = 0) ∨
   (f1 = 15 ∧ f2 = 0 ∧ f4 = 0 ∧ (f3 = 240 ∨ f3 = 247)) ∨ (f1 = 16 ∧ f2 = 0 ∧ f4 = 0 ∧ 0 ≤ f3 ∧ f3 ≤ 127))) := by
    rw [← hD, decide_eq_true_eq]; rfl
  clear hD
  simp only [wire_Right.f, wire_Right.j0, wire_Right.j1, wire_Right.j2, wire_Right.j3, wire_Right.j4, counts_f, within_f, Option.bind_some, decide_eq_true_eq, beq_iff_eq, hd, Bool.false_eq_true, if_false, if_true]
  repeat' (refine ite_to (fun _ => ?_) (fun _ => ?_))
  all_goals
    refine congrArg some ?_
    rw [Bool.eq_iff_iff, hR]
    simp only [decide_eq_true_eq, beq_iff_eq, Bool.false_eq_true, false_iff, true_iff]
    omega
end Go.Proofs.YtdmnknhlibaaoaaDoor.Z
namespace Go.Proofs.YtdmnknhlibaaoaaDoor.Z
open Go.RowKit Go.Proofs.YtdmnknhlibaaoaaDoorW.PrintWords Go.Proofs.YtdmnknhlibaaoaaDoorW.PrintLast Go.Proofs.YtdmnknhlibaaoaaDoor.M
set_option linter.unusedVariables false
def Suf (s : ByteArray) (r : List Int) : Prop := ∃ p, bytesOf s = p ++ r
def pos (s : ByteArray) (r : List Int) : Int := s.size - r.length
theorem Suf.all (s : ByteArray) : Suf s (bytesOf s) := ⟨[], rfl⟩
theorem Suf.of {s : ByteArray} {p r : List Int} (h : Suf s (p ++ r)) : Suf s r := by
  obtain ⟨q, hq⟩ := h
  exact ⟨q ++ p, by rw [hq, List.append_assoc]⟩
theorem Suf.tail {s : ByteArray} {c : Int} {r : List Int} (h : Suf s (c :: r)) : Suf s r := Suf.of (p := [c]) h
theorem Suf.len {s : ByteArray} {r : List Int} (h : Suf s r) : (r.length : Int) ≤ s.size := by
  obtain ⟨p, hp⟩ := h
  have := congrArg List.length hp
  rw [bytesOf_length, List.length_append] at this
  omega
theorem Suf.bytes {s : ByteArray} {r : List Int} (h : Suf s r) : Bytes r := by
  obtain ⟨p, hp⟩ := h
  have := bytesOf_bytes s
  rw [hp] at this
  exact this.right
theorem pos_all (s : ByteArray) : pos s (bytesOf s) = 0 := by unfold pos; rw [bytesOf_length]; omega
theorem pos_nonneg {s : ByteArray} {r : List Int} (h : Suf s r) : 0 ≤ pos s r := by have := h.len; unfold pos; omega
theorem pos_le (s : ByteArray) (r : List Int) : pos s r ≤ s.size := by unfold pos; omega
theorem pos_drop {s : ByteArray} {r : List Int} (h : Suf s r) : (bytesOf s).drop (pos s r).toNat = r := by
  have hl := h.len
  obtain ⟨p, hp⟩ := h
  have := congrArg List.length hp
  rw [bytesOf_length, List.length_append] at this
  have e : (pos s r).toNat = p.length := by unfold pos; omega
  rw [e, hp, List.drop_left]
theorem pos_cons {s : ByteArray} {c : Int} {r : List Int} : pos s r = pos s (c :: r) + 1 := by unfold pos; rw [List.length_cons]; omega
theorem pos_lt {s : ByteArray} {c : Int} {r : List Int} : pos s (c :: r) < s.size := by unfold pos; rw [List.length_cons]; omega
theorem pos_nil (s : ByteArray) : pos s [] = s.size := by unfold pos; simp
theorem bt_pos {s : ByteArray} {c : Int} {r : List Int} (h : Suf s (c :: r)) : bt s (pos s (c :: r)) = c := by
  have h1 := drop_at s (pos s (c :: r)) (pos_nonneg h) pos_lt
  rw [pos_drop h] at h1
  injection h1 with h1 _
  exact h1.symm
theorem vlq_suf {i : Nat} {n m : Int} {s : ByteArray} {r r' : List Int} (h : Suf s r) (hv : vlq i n r = .ok (m, r')) : Suf s r' := by
  obtain ⟨p, rfl, _⟩ := vlq_ok h.bytes hv
  exact h.of
theorem dat_suf {bs r' : List Int} {s : ByteArray} {r : List Int} (h : Suf s r) (hv : dat r = .ok (bs, r')) : Suf s r' := by
  obtain ⟨_, _, p, rfl, _⟩ := dat_ok h.bytes hv
  exact h.of.of
theorem low_suf {a : Int} {r' : List Int} {s : ByteArray} {r : List Int} (h : Suf s r) (hv : low r = .ok (a, r')) : Suf s r' := by
  obtain ⟨rfl, _⟩ := low_ok hv
  exact h.tail
section
variable {s : ByteArray} {r : List Int} {last : Int} {k : Nat}
theorem fail0 (at_ e : Int) : wire_reader_fail.f s at_ last 0 e = some (s, at_, last, e) := by unfold wire_reader_fail.f; rw [if_pos rfl]
theorem number_r (hk : 7 ≤ k) (hs : s.size ≤ 140737488351232) (h : Suf s r) : wire_reader_number.f k s (pos s r) last 0 = some (match vlq 4 0 r with
    | .error e => (0, s, pos s r, last, e)
    | .ok (n, r') => (n, s, pos s r', last, 0)) := by
  unfold wire_reader_number.f
  rw [if_pos rfl, readVlq_f s _ k hk (pos_nonneg h) (pos_le s r) hs, pos_drop h]
  unfold vlqAns
  cases hv : vlq 4 0 r with
  | error e =>
    rw [Option.bind_some]
    dsimp only
    rcases vlq_e hv with rfl | rfl
    · rw [if_neg (by decide), fail0]; rfl
    · rw [if_neg (by decide), fail0]; rfl
  | ok x =>
    obtain ⟨n, r'⟩ := x
    rw [Option.bind_some]
    dsimp only
    rw [if_pos rfl]
    rfl
theorem number_e {e at_ : Int} (he : e ≠ 0) : wire_reader_number.f k s at_ last e = some (0, s, at_, last, e) := by
  unfold wire_reader_number.f
  rw [if_neg he]
theorem data_r (hs : s.size ≤ 140737488351232) (h : Suf s r) : wire_reader_data.f s (pos s r) last 0 = some (match low r with
    | .error e => (0, s, pos s r, last, e)
    | .ok (a, r') => (a, s, pos s r', last, 0)) := by
  unfold wire_reader_data.f
  rw [if_pos rfl]
  cases r with
  | nil => rw [pos_nil, if_pos (by omega), fail0]; rfl
  | cons c r =>
    have hp := pos_lt (s := s) (c := c) (r := r)
    have hp0 := pos_nonneg h
    have hc := h.bytes.head
    rw [if_neg (by omega), if_pos hp0, if_pos hp, bt_pos h, w64 (by omega) (by omega)]
    by_cases c1 : c ≥ 128
    · rw [if_pos c1, fail0, low, if_pos c1]; rfl
    · rw [if_neg c1, low, if_neg c1, w64 (by omega) (by omega), ← pos_cons]
theorem data_e {e at_ : Int} (he : e ≠ 0) : wire_reader_data.f s at_ last e = some (0, s, at_, last, e) := by
  unfold wire_reader_data.f
  rw [if_neg he]
theorem bytes_r (hk : 7 ≤ k) (hs : s.size ≤ 140737488351232) (h : Suf s r) : match dat r with
    | .error e => ∃ a, wire_reader_bytes.f k s (pos s r) last 0 = some (⟨#[]⟩, s, a, last, e)
    | .ok (bs, r') => wire_reader_bytes.f k s (pos s r) last 0 = some (strOfNums bs, s, pos s r', last, 0) := by
  unfold wire_reader_bytes.f
  rw [number_r hk hs h]
  unfold dat
  cases hv : vlq 4 0 r with
  | error e =>
    rw [Option.bind_some]
    dsimp only
    have he : e ≠ 0 := by rcases vlq_e hv with rfl | rfl <;> decide
    rw [if_neg he]
    exact ⟨_, rfl⟩
  | ok x =>
    obtain ⟨n, r1⟩ := x
    obtain ⟨h0, h1, _⟩ := vlq4_ok h.bytes hv
    have h2 := vlq_suf h hv
    have hp0 := pos_nonneg h2
    have hpl := pos_le s r1
    have hpe : pos s r1 = s.size - r1.length := rfl
    rw [Option.bind_some]
    dsimp only
    rw [if_pos rfl]
    by_cases c1 : n > 100000
    · rw [if_pos c1, if_pos c1, fail0]
      exact ⟨_, rfl⟩
    · rw [if_neg c1, if_neg c1, w64 (by omega) (by omega)]
      by_cases c2 : n > r1.length
      · rw [if_pos c2, if_pos (by omega), fail0]
        exact ⟨_, rfl⟩
      · rw [if_neg c2, if_neg (by omega), if_pos (by omega), if_pos (by omega), if_pos (by omega)]
        dsimp only
        have e1 : s.extract (pos s r1).toNat (pos s r1 + n).toNat = strOfNums (r1.take n.toNat) := by
          apply bytesOf_inj
          rw [bytesOf_extract, pos_drop h2, bytesOf_str (h2.bytes.take _)]
          congr 1
          omega
        have e2 : pos s r1 + n = pos s (r1.drop n.toNat) := by
          unfold pos
          rw [List.length_drop]
          omega
        rw [e1, e2]
theorem bytes_e {e at_ : Int} (he : e ≠ 0) : wire_reader_bytes.f k s at_ last e = some (⟨#[]⟩, s, at_, last, e) := by
  unfold wire_reader_bytes.f
  rw [number_e he, Option.bind_some]
  dsimp only
  rw [if_neg he]
theorem status_e {e at_ : Int} (he : e ≠ 0) : wire_reader_status.f s at_ last e = some (0, s, at_, last, e) := by
  unfold wire_reader_status.f
  rw [if_neg he]
theorem status_nil : wire_reader_status.f s (pos s []) last 0 = some (0, s, pos s [], last, 152) := by
  unfold wire_reader_status.f
  rw [if_pos rfl, pos_nil, if_pos (by omega), fail0]; rfl
theorem status_lo {c : Int} {r1 : List Int} (hs : s.size ≤ 140737488351232) (h : Suf s (c :: r1)) (hc : c < 128) :
    wire_reader_status.f s (pos s (c :: r1)) last 0 = if last = 0 then some (last, s, pos s (c :: r1), last, 151) else some (last, s, pos s (c :: r1), last, 0) := by
  have hp := pos_lt (s := s) (c := c) (r := r1)
  have hp0 := pos_nonneg h
  have hcb := h.bytes.head
  unfold wire_reader_status.f
  rw [if_pos rfl, if_neg (by omega), if_pos hp0, if_pos hp, bt_pos h, w64 (by omega) (by omega), if_pos hc, fail0]
  rfl
theorem status_hi {c : Int} {r1 : List Int} (hs : s.size ≤ 140737488351232) (h : Suf s (c :: r1)) (hc : ¬ c < 128) :
    wire_reader_status.f s (pos s (c :: r1)) last 0 = some (c, s, pos s r1, last, if c > 240 ∧ c ≠ 247 ∧ c ≠ 255 then 151 else 0) := by
  have hp := pos_lt (s := s) (c := c) (r := r1)
  have hp0 := pos_nonneg h
  have hcb := h.bytes.head
  unfold wire_reader_status.f
  rw [if_pos rfl, if_neg (by omega), if_pos hp0, if_pos hp, bt_pos h, w64 (by omega) (by omega), if_neg hc, fail0, w64 (by omega) (by omega), ← pos_cons]
  by_cases c1 : c > 240
  · rw [if_pos c1]
    by_cases c2 : c = 247
    · rw [if_pos c2, if_neg (by omega)]
    · rw [if_neg c2]
      by_cases c3 : c = 255
      · rw [if_pos c3, if_neg (by omega)]
      · rw [if_neg c3, if_pos ⟨c1, c2, c3⟩, Option.bind_some]
        dsimp only
        rw [w64 (by omega) (by omega), ← pos_cons]
  · rw [if_neg c1, if_neg (by omega)]
def rest (k : Nat) (d c : Int) (s : ByteArray) (a last e : Int) : Option (Int × Int × Int × Int × Int × ByteArray × ByteArray × Int × Int × Int) :=
  if c = 255 then ((wire_reader_data.f s a 0 e).bind fun bt216 => ((wire_reader_bytes.f k bt216.2.1 bt216.2.2.1 bt216.2.2.2.1 bt216.2.2.2.2).bind fun bt221 => (some (d, 16, 0, bt216.1, 0, bt221.1, bt221.2.1, bt221.2.2.1, bt221.2.2.2.1, bt221.2.2.2.2))))
  else (if c ≥ 240 then ((wire_reader_bytes.f k s a 0 e).bind fun bt226 => (some (d, 15, 0, c, 0, bt226.1, bt226.2.1, bt226.2.2.1, bt226.2.2.2.1, bt226.2.2.2.2)))
  else ((wire_reader_data.f s a c e).bind fun bt231 => ((wire_one.f (wrap64 (Int.tdiv c 16))).bind fun t236 => (if t236 = true then (some (d, wrap64 (Int.tdiv c 16), Int.tmod c 16, bt231.1, 0, (⟨#[]⟩ : ByteArray), bt231.2.1, bt231.2.2.1, bt231.2.2.2.1, bt231.2.2.2.2)) else ((wire_reader_data.f bt231.2.1 bt231.2.2.1 bt231.2.2.2.1 bt231.2.2.2.2).bind fun bt237 => (some (d, wrap64 (Int.tdiv c 16), Int.tmod c 16, bt231.1, bt237.1, (⟨#[]⟩ : ByteArray), bt237.2.1, bt237.2.2.1, bt237.2.2.2.1, bt237.2.2.2.2)))))))
theorem message_rest (a last e : Int) : wire_reader_message.f k s a last e = (wire_reader_number.f k s a last e).bind fun x => (wire_reader_status.f x.2.1 x.2.2.1 x.2.2.2.1 x.2.2.2.2).bind fun y => rest k x.1 y.1 y.2.1 y.2.2.1 y.2.2.2.1 y.2.2.2.2 := rfl
theorem rest_e {d c a e : Int} (he : e ≠ 0) : ∃ t, rest k d c s a last e = some t ∧ t.2.2.2.2.2.2.2.2.2 = e := by
  unfold rest
  rw [data_e he, data_e he, bytes_e he, one_f]
  simp only [Option.bind_some]
  rw [bytes_e he, data_e he]
  simp only [Option.bind_some]
  by_cases c1 : c = 255
  · rw [if_pos c1]; exact ⟨_, rfl, rfl⟩
  · rw [if_neg c1]
    by_cases c2 : c ≥ 240
    · rw [if_pos c2]; exact ⟨_, rfl, rfl⟩
    · rw [if_neg c2]
      split
      · exact ⟨_, rfl, rfl⟩
      · exact ⟨_, rfl, rfl⟩
theorem low_e {e : Int} (h : low r = .error e) : e = 151 ∨ e = 152 := by
  cases r with
  | nil => cases h; exact .inr rfl
  | cons c r =>
    by_cases c1 : c ≥ 128
    · rw [low, if_pos c1] at h; cases h; exact .inl rfl
    · rw [low, if_neg c1] at h; cases h
theorem dat_e {e : Int} (h : dat r = .error e) : e = 150 ∨ e = 151 ∨ e = 152 := by
  unfold dat at h
  cases hv : vlq 4 0 r with
  | error e' =>
    rw [hv] at h; injection h with h; subst h
    rcases vlq_e hv with rfl | rfl
    · exact .inl rfl
    · exact .inr (.inr rfl)
  | ok x =>
    obtain ⟨n, r1⟩ := x
    rw [hv] at h
    dsimp only at h
    by_cases c1 : n > 100000
    · rw [if_pos c1] at h; cases h; exact .inr (.inl rfl)
    · rw [if_neg c1] at h
      by_cases c2 : n > r1.length
      · rw [if_pos c2] at h; cases h; exact .inr (.inr rfl)
      · rw [if_neg c2] at h; cases h
def Told (x : Except Int (Msg × Int × List Int)) (s : ByteArray) (o : Option (Int × Int × Int × Int × Int × ByteArray × ByteArray × Int × Int × Int)) : Prop :=
  match x with
  | .error e => e ≠ 0 ∧ ∃ t, o = some t ∧ t.2.2.2.2.2.2.2.2.2 = e
  | .ok (m, l', r') => Suf s r' ∧ o = some (m.f0, m.f1, m.f2, m.f3, m.f4, m.f5, s, pos s r', l', 0)
theorem rest_r {d c : Int} (hk : 7 ≤ k) (hs : s.size ≤ 140737488351232) (h : Suf s r) (h1 : 128 ≤ c) (h2 : c ≤ 255) : Told (body d c r) s (rest k d c s (pos s r) last 0) := by
  unfold rest
  by_cases c1 : c = 255
  · subst c1
    rw [if_pos rfl, body_255, data_r hs h, Option.bind_some]
    cases hl : low r with
    | error e =>
      dsimp only
      have he : e ≠ 0 := by rcases low_e hl with rfl | rfl <;> decide
      rw [bytes_e he]
      exact ⟨he, _, rfl, rfl⟩
    | ok x =>
      obtain ⟨a, r1⟩ := x
      dsimp only
      have hb := bytes_r (k := k) (last := 0) hk hs (low_suf h hl)
      cases hd : dat r1 with
      | error e =>
        rw [hd] at hb
        obtain ⟨q, hb⟩ := hb
        rw [hb]
        refine ⟨by rcases dat_e hd with rfl | rfl | rfl <;> decide, _, rfl, rfl⟩
      | ok y =>
        obtain ⟨bs, r2⟩ := y
        rw [hd] at hb
        dsimp only at hb
        rw [hb]
        exact ⟨dat_suf (low_suf h hl) hd, rfl⟩
  · rw [if_neg c1]
    by_cases c2 : c ≥ 240
    · rw [if_pos c2, body_sys c1 c2]
      have hb := bytes_r (k := k) (last := 0) hk hs h
      cases hd : dat r with
      | error e =>
        rw [hd] at hb
        obtain ⟨q, hb⟩ := hb
        rw [hb]
        refine ⟨by rcases dat_e hd with rfl | rfl | rfl <;> decide, _, rfl, rfl⟩
      | ok y =>
        obtain ⟨bs, r2⟩ := y
        rw [hd] at hb
        dsimp only at hb
        rw [hb]
        exact ⟨dat_suf h hd, rfl⟩
    · rw [if_neg c2, body_key (by omega), data_r hs h, Option.bind_some, one_f, Option.bind_some]
      have e1 : wrap64 (Int.tdiv c 16) = c / 16 := by rw [Int.tdiv_eq_ediv_of_nonneg (by omega)]; exact w64 (by omega) (by omega)
      have e2 : Int.tmod c 16 = c % 16 := Int.tmod_eq_emod_of_nonneg (by omega)
      rw [e1, e2]
      cases hl : low r with
      | error e =>
        dsimp only
        have he : e ≠ 0 := by rcases low_e hl with rfl | rfl <;> decide
        rw [data_e he]
        refine ⟨he, ?_⟩
        split
        · exact ⟨_, rfl, rfl⟩
        · exact ⟨_, rfl, rfl⟩
      | ok x =>
        obtain ⟨a, r1⟩ := x
        dsimp only
        have h3 := low_suf h hl
        by_cases c3 : c / 16 = 12 ∨ c / 16 = 13
        · rw [if_pos c3, if_pos (decide_eq_true c3)]
          exact ⟨h3, rfl⟩
        · rw [if_neg c3, if_neg (by rw [decide_eq_true_eq]; exact c3), data_r hs h3, Option.bind_some]
          cases hl2 : low r1 with
          | error e =>
            exact ⟨by rcases low_e hl2 with rfl | rfl <;> decide, _, rfl, rfl⟩
          | ok y =>
            obtain ⟨b, r2⟩ := y
            exact ⟨low_suf h3 hl2, rfl⟩
theorem message_r (hk : 7 ≤ k) (hs : s.size ≤ 140737488351232) (h : Suf s r) (hl : LastOk last) : Told (msg last r) s (wire_reader_message.f k s (pos s r) last 0) := by
  rw [message_rest, number_r hk hs h, Option.bind_some]
  cases hv : vlq 4 0 r with
  | error e =>
    have he : e ≠ 0 := by rcases vlq_e hv with rfl | rfl <;> decide
    unfold msg
    rw [hv]
    dsimp only
    rw [status_e he, Option.bind_some]
    exact ⟨he, rest_e he⟩
  | ok x =>
    obtain ⟨d, r1⟩ := x
    have h2 := vlq_suf h hv
    cases r1 with
    | nil =>
      unfold msg
      rw [hv]
      dsimp only
      rw [status_nil, Option.bind_some]
      exact ⟨by decide, rest_e (show (152 : Int) ≠ 0 by decide)⟩
    | cons c r1 =>
      rw [msg_at hv]
      dsimp only
      by_cases c1 : c < 128
      · rw [if_pos c1, status_lo hs h2 c1]
        by_cases c2 : last = 0
        · rw [if_pos c2, if_pos c2, Option.bind_some]
          exact ⟨by decide, rest_e (show (151 : Int) ≠ 0 by decide)⟩
        · rw [if_neg c2, if_neg c2, Option.bind_some]
          have hl2 : 128 ≤ last ∧ last < 240 := by rcases hl with hl | hl <;> omega
          exact rest_r hk hs h2 hl2.1 (by omega)
      · have hc := h2.bytes.head
        rw [if_neg c1, status_hi hs h2 c1, Option.bind_some]
        by_cases c2 : c > 240 ∧ c ≠ 247 ∧ c ≠ 255
        · rw [if_pos c2]
          dsimp only
          rw [if_pos c2]
          exact ⟨by decide, rest_e (by decide)⟩
        · rw [if_neg c2]
          dsimp only
          rw [if_neg c2]
          exact rest_r hk hs h2.tail (by omega) hc.2
end
theorem decode_l0 {s : ByteArray} (hs : s.size ≤ 1000000000) : ∀ {l : Int} {r : List Int} {ms : List Msg}, Dec l r ms → LastOk l → Suf s r → ∀ (out : List Msg) (k : Nat), out.length + r.length ≤ 1000000000 → ms.length + 8 < k →
    wire_Decode.l0 k s out s (pos s r) l = some (out ++ ms, 0, 0)
  | l, _, _, .nil _, hl, h, out, k, _, hk => by
    obtain ⟨k, rfl⟩ : ∃ m, k = m + 1 := ⟨k - 1, by omega⟩
    simp only [wire_Decode.l0]
    rw [pos_nil, if_neg (by omega), List.append_nil]
  | l, r, _, .cons (m := m) (ms := ms) (r' := r') (l' := l') hm hd, hl, h, out, k, ho, hk => by
    rw [List.length_cons] at hk
    obtain ⟨k, rfl⟩ : ∃ m, k = m + 1 := ⟨k - 1, by omega⟩
    have ht := message_r (k := k) (by omega) (by omega) h hl
    rw [hm] at ht
    obtain ⟨h1, h2⟩ := ht
    obtain ⟨k1, rfl, p, hp, k3, k4⟩ := msg_ok hl h.bytes hm
    have hlen : r.length = p.length + r'.length := by rw [hp, List.length_append]
    have hlt : pos s r < s.size := by unfold pos; omega
    simp only [wire_Decode.l0]
    rw [if_pos hlt, h2, Option.bind_some]
    dsimp only
    rw [if_pos rfl, if_pos (by omega)]
    have ih := decode_l0 hs hd (nextL_ok k1) h1 (out ++ [m]) k qqD (by omega)
    rw [List.append_assoc] at ih
    exact ih
theorem decode_bad {s : ByteArray} (hs : s.size ≤ 1000000000) {l e : Int} {r : List Int} {n : Nat} (hd : Bad l r e n) : LastOk l → Suf s r → ∀ (out : List Msg), out.length + r.length ≤ 1000000000 →
    ∃ K, ∀ k, K ≤ k → wire_Decode.l0 k s out s (pos s r) l = some ([], (s.size : Int) - (n : Int), e) := by
  induction hd with
  | @here l e r hne hm =>
    intro hl h out _
    refine ⟨9, fun k hk => ?_⟩
    obtain ⟨k, rfl⟩ : ∃ m, k = m + 1 := ⟨k - 1, by omega⟩
    have ht := message_r (k := k) (by omega) (by omega) h hl
    rw [hm] at ht
    obtain ⟨he, t, h1, h2⟩ := ht
    have hlt : pos s r < s.size := by
      have := List.length_pos_iff.2 hne
      unfold pos; omega
    simp only [wire_Decode.l0]
    rw [if_pos hlt, h1, Option.bind_some, h2, if_neg he]
    rfl
  | @later l l' e r r' m n hm _ ih =>
    intro hl h out ho
    obtain ⟨k1, rfl, p, hp, k3, k4⟩ := msg_ok hl h.bytes hm
    have hlen : r.length = p.length + r'.length := by rw [hp, List.length_append]
    have hsuf : Suf s r' := by rw [hp] at h; exact h.of
    obtain ⟨K, hK⟩ := ih (nextL_ok k1) hsuf (out ++ [m]) qqD
    refine ⟨K + 9, fun k hk => ?_⟩
    obtain ⟨k, rfl⟩ : ∃ m, k = m + 1 := ⟨k - 1, by omega⟩
    have ht := message_r (k := k) (by omega) (by omega) h hl
    rw [hm] at ht
    obtain ⟨h1, h2⟩ := ht
    have hlt : pos s r < s.size := by unfold pos; omega
    simp only [wire_Decode.l0]
    rw [if_pos hlt, h2, Option.bind_some]
    dsimp only
    rw [if_pos rfl, if_pos (by omega)]
    exact hK k (by omega)
theorem decode_ok {s : ByteArray} (hs : s.size ≤ 1000000000) {ms : List Msg} (h : Dec 0 (bytesOf s) ms) : Ev (fun k => wire_Decode.f k s) (ms, 0, 0) := by
  refine ⟨ms.length + 9, fun k hk => ?_⟩
  have h1 := decode_l0 hs h (.inl rfl) (Suf.all s) [] k (by rw [bytesOf_length]; simpa using hs) (by omega)
  rw [pos_all] at h1
  exact h1
theorem decode_err {s : ByteArray} (hs : s.size ≤ 1000000000) {e : Int} {n : Nat} (h : Bad 0 (bytesOf s) e n) : Ev (fun k => wire_Decode.f k s) ([], (s.size : Int) - (n : Int), e) := by
  obtain ⟨K, hK⟩ := decode_bad hs h (.inl rfl) (Suf.all s) [] (by rw [bytesOf_length]; simpa using hs)
  refine ⟨K, fun k hk => ?_⟩
  have h1 := hK k hk
  rw [pos_all] at h1
  exact h1
end Go.Proofs.YtdmnknhlibaaoaaDoor.Z
namespace Go.Proofs.YtdmnknhlibaaoaaDoor.Z
open Go.RowKit Go.Proofs.YtdmnknhlibaaoaaDoorW.PrintWords Go.Proofs.YtdmnknhlibaaoaaDoorW.PrintLast Go.Proofs.YtdmnknhlibaaoaaDoor.M
set_option linter.unusedVariables false
def tot : List Msg → Nat
  | [] => 0
  | m :: ms => m.f5.size + 10 + tot ms
theorem rd_drop (l : List Msg) (i : Nat) (h : i < l.length) : l.drop i = rd_T39 l (i : Int) :: l.drop (i + 1) := by
  rw [List.drop_eq_getElem_cons h]
  unfold rd_T39
  rw [Int.toNat_natCast, List.getD_eq_getElem?_getD, List.getElem?_eq_getElem h]
  rfl
theorem encode_step (k : Nat) (out : List Int) (last : Int) (l : List Msg) (i : Nat) (hi : i < l.length) (hk : 6 ≤ k) (hl : l.length ≤ 1000000000) (hr : Right (rd_T39 l (i : Int))) (ho : out.length + (rd_T39 l (i : Int)).f5.size + 10 ≤ 2000000000) :
    wire_Encode.l0 (k + 1) out last l (l.length : Int) (i : Int) = wire_Encode.l0 k (out ++ encOne last (rd_T39 l (i : Int))) (nextL (rd_T39 l (i : Int))) l (l.length : Int) ((i + 1 : Nat) : Int) := by
  simp only [wire_Encode.l0]
  have e1 : wrap64 ((i : Int) + 1) = ((i + 1 : Nat) : Int) := by rw [w64 (by omega) (by omega)]; omega
  rw [if_pos (by omega), if_pos (by omega), if_pos (by omega), right_f _ k hk, decide_eq_true hr, Option.bind_some, if_pos rfl, e1]
  generalize hm : rd_T39 l (i : Int) = m at *
  obtain ⟨f0, f1, f2, f3, f4, f5⟩ := m
  obtain ⟨h0, h1, h2, h⟩ := hr
  dsimp only at h0 h1 h2 h ho ⊢
  have hn := (num_len f0).2
  have hn2 := (num_len f5.size).2
  have hbl := bytesOf_length f5
  rw [number_f h0 h1, Option.bind_some, number_f (by omega) (by omega), if_pos (by omega), Option.bind_some]
  unfold encOne nextL
  dsimp only
  rcases h with ⟨k1, k2, k3, k4, k5, k6, k7, k8, k9, k10⟩ | ⟨rfl, rfl, rfl, kk⟩ | ⟨rfl, rfl, rfl, k1, k2⟩
  · have ew : wrap64 (wrap64 (16 * f1) + f2) = 16 * f1 + f2 := by rw [w64 (x := 16 * f1) (by omega) (by omega)]; exact w64 (by omega) (by omega)
    have e3 : f3 % 256 = f3 := by omega
    have e4 : f4 % 256 = f4 := by omega
    have e5 : (16 * f1 + f2) % 256 = 16 * f1 + f2 := by omega
    rw [if_neg (show ¬ f1 = 16 by omega), if_neg (show ¬ f1 = 15 by omega), if_neg (show ¬ f1 = 16 by omega), if_neg (show ¬ f1 = 15 by omega), if_neg (show ¬ f1 = 16 by omega), if_neg (show ¬ f1 = 15 by omega), ew, e3, e4, e5, one_f]
    simp only [Option.bind_some, decide_eq_true_eq, List.length_append, List.length_cons, List.length_nil]
    by_cases c1 : 16 * f1 + f2 = last
    · rw [if_pos c1, if_pos c1, if_pos (by omega)]
      by_cases c2 : f1 = 12 ∨ f1 = 13
      · rw [if_pos c2, if_pos c2]; simp only [List.append_assoc, List.nil_append]
      · rw [if_neg c2, if_neg c2, if_pos (by omega)]; simp only [List.append_assoc, List.nil_append, List.cons_append]
    · rw [if_neg c1, if_neg c1, if_pos (by omega), if_pos (by omega)]
      by_cases c2 : f1 = 12 ∨ f1 = 13
      · rw [if_pos c2, if_pos c2]; simp only [List.append_assoc, List.nil_append, List.cons_append]
      · rw [if_neg c2, if_neg c2, if_pos (by omega)]; simp only [List.append_assoc, List.nil_append, List.cons_append]
  · have e3 : f3 % 256 = f3 := by omega
    rw [if_neg (show ¬ (15 : Int) = 16 by decide), if_pos (show (15 : Int) = 15 from rfl), if_neg (show ¬ (15 : Int) = 16 by decide), if_pos (show (15 : Int) = 15 from rfl), if_neg (show ¬ (15 : Int) = 16 by decide), if_pos (show (15 : Int) = 15 from rfl), e3]
    simp only [Option.bind_some, List.length_append, List.length_cons, List.length_nil]
    rw [if_pos (by omega), if_pos (by omega), if_pos (by omega)]
    simp only [List.append_assoc, List.nil_append, List.cons_append]
  · have e3 : f3 % 256 = f3 := by omega
    rw [if_pos (show (16 : Int) = 16 from rfl), if_pos (show (16 : Int) = 16 from rfl), if_pos (show (16 : Int) = 16 from rfl), e3]
    simp only [Option.bind_some, List.length_append, List.length_cons, List.length_nil]
    rw [if_pos (by omega), if_pos (by omega), if_pos (by omega), if_pos (by omega)]
    simp only [List.append_assoc, List.nil_append, List.cons_append]
theorem encOne_size (l : Int) (m : Msg) : (encOne l m).length ≤ m.f5.size + 10 := by
  have a1 := (num_len m.f0).2
  have a2 := (num_len m.f5.size).2
  unfold encOne
  split
  · simp only [List.length_append, List.length_cons, bytesOf_length]; omega
  · split
    · simp only [List.length_append, List.length_cons, bytesOf_length]; omega
    · simp only [List.length_append, List.length_cons]
      split <;> split <;> simp <;> omega
theorem encode_l0 (l : List Msg) (hl : l.length ≤ 1000000000) : ∀ (j i : Nat) (out : List Int) (last : Int) (k : Nat), i + j = l.length → Rights (l.drop i) → out.length + tot (l.drop i) ≤ 1000000000 → j + 7 < k →
    wire_Encode.l0 k out last l (l.length : Int) (i : Int) = some (strOfNums (out ++ enc last (l.drop i)), 0)
  | 0, i, out, last, k, hj, _, _, hk => by
    obtain ⟨k, rfl⟩ : ∃ m, k = m + 1 := ⟨k - 1, by omega⟩
    simp only [wire_Encode.l0]
    rw [if_neg (by omega), List.drop_of_length_le (by omega), enc_nil, List.append_nil]
  | j + 1, i, out, last, k, hj, hr, ho, hk => by
    obtain ⟨k, rfl⟩ : ∃ m, k = m + 1 := ⟨k - 1, by omega⟩
    have hi : i < l.length := by omega
    rw [rd_drop l i hi] at hr ho ⊢
    simp only [tot] at ho
    rw [encode_step k out last l i hi (by omega) hl hr.head (by omega)]
    have hsz := encOne_size last (rd_T39 l (i : Int))
    rw [encode_l0 l hl j (i + 1) _ _ k (by omega) hr.tail (by rw [List.length_append]; omega) (by omega), enc_cons, List.append_assoc]
theorem tot_len {l : List Msg} (h : tot l ≤ 1000000000) : l.length ≤ 1000000000 := by
  have : ∀ l : List Msg, l.length ≤ tot l := by
    intro l
    induction l with
    | nil => simp [tot]
    | cons m ms ih => simp only [tot, List.length_cons]; omega
  have := this l
  omega
theorem encode_ok {l : List Msg} (hr : Rights l) (ht : tot l ≤ 1000000000) : Ev (fun k => wire_Encode.f k l) (strOfNums (enc 0 l), 0) :=
  ⟨l.length + 8, fun k hk => by
    have h := encode_l0 l (tot_len ht) l.length 0 [] 0 k (by omega) (by simpa using hr) (by simpa using ht) (by omega)
    show wire_Encode.l0 k [] 0 l (l.length : Int) 0 = _
    simpa using h⟩
theorem encOne_bytes {m : Msg} (hm : Right m) {l : Int} : Bytes (encOne l m) := by
  obtain ⟨f0, f1, f2, f3, f4, f5⟩ := m
  obtain ⟨h0, h1, h2, h⟩ := hm
  unfold encOne
  dsimp only at h0 h1 h2 h ⊢
  have a := num_bytes h0
  have b := num_bytes (n := f5.size) (by omega)
  have c := bytesOf_bytes f5
  split
  · exact a.append (Bytes.cons (by decide) (by decide) (Bytes.cons (by omega) (by omega) (b.append c)))
  · split
    · exact a.append (Bytes.cons (by omega) (by omega) (b.append c))
    · refine a.append (Bytes.append ?_ (Bytes.cons (by omega) (by omega) ?_))
      · split
        · exact Bytes.nil
        · exact Bytes.cons (by omega) (by omega) Bytes.nil
      · split
        · exact Bytes.nil
        · exact Bytes.cons (by omega) (by omega) Bytes.nil
theorem enc_bytes : ∀ {ms : List Msg} {l : Int}, Rights ms → Bytes (enc l ms)
  | [], _, _ => Bytes.nil
  | m :: ms, l, h => by
    rw [enc_cons]
    exact (encOne_bytes h.head).append (enc_bytes h.tail)
theorem enc_tot : ∀ (ms : List Msg) (l : Int), (enc l ms).length ≤ tot ms
  | [], _ => Nat.le_refl _
  | m :: ms, l => by
    have h1 := encOne_size l m
    have h2 := enc_tot ms (nextL m)
    rw [enc_cons, List.length_append]
    simp only [tot]
    omega
end Go.Proofs.YtdmnknhlibaaoaaDoor.Z
namespace Go.Proofs.YtdmnknhlibaaoaaDoor.Z
open Go.RowKit Go.Proofs.YtdmnknhlibaaoaaDoorW.PrintWords Go.Proofs.YtdmnknhlibaaoaaDoorW.PrintLast Go.Proofs.YtdmnknhlibaaoaaDoor.M
set_option linter.unusedVariables false
theorem Ev.yes {α : Type} {c : Prop} [Decidable c] {a b : Nat → Option α} {r : α} (h : c) (k : Ev a r) : Ev (fun n => if c then a n else b n) r := by
  obtain ⟨K, hK⟩ := k
  exact ⟨K, fun n hn => by show (if c then a n else b n) = some r; rw [if_pos h]; exact hK n hn⟩
theorem Ev.no {α : Type} {c : Prop} [Decidable c] {a b : Nat → Option α} {r : α} (h : ¬ c) (k : Ev b r) : Ev (fun n => if c then a n else b n) r := by
  obtain ⟨K, hK⟩ := k
  exact ⟨K, fun n hn => by show (if c then a n else b n) = some r; rw [if_neg h]; exact hK n hn⟩
theorem Ev.eq {α : Type} {x : Option α} {r : α} (h : x = some r) : Ev (fun _ => x) r := ⟨0, fun _ _ => h⟩
theorem Ev.at {α : Type} {g : Nat → Option α} {r : α} (K : Nat) (h : ∀ k, K ≤ k → g k = some r) : Ev g r := ⟨K, h⟩
theorem Ev.ok {α : Type} {g : Nat → Option α} {r r' : α} (h : Ev g r) (e : r = r') : Ev g r' := e ▸ h
def isEnd (m : Msg) : Bool := decide (m.f1 = 16) && (decide (m.f3 = 47) && decide (m.f5.size = 0))
theorem last_f (m : Msg) : smf_last.f m.f0 m.f1 m.f2 m.f3 m.f4 m.f5 = some (isEnd m) := by
  unfold smf_last.f isEnd
  by_cases h1 : m.f1 = 16
  · rw [if_pos h1, decide_eq_true h1, Bool.true_and]
    by_cases h2 : m.f3 = 47
    · rw [if_pos h2, decide_eq_true h2, Bool.true_and]
      congr 1
      rw [Bool.eq_iff_iff]
      simp only [beq_iff_eq, decide_eq_true_eq]
      exact toList_nil m.f5
    · rw [if_neg h2, decide_eq_false h2, Bool.false_and]
  · rw [if_neg h1, decide_eq_false h1, Bool.false_and]
def fIdx (p : Msg → Bool) : List Msg → Nat → Int
  | [], _ => -1
  | m :: r, i => if p m = true then (i : Int) else fIdx p r (i + 1)
theorem idx60_l0 (l : List Msg) (hl : l.length ≤ 1000000000) : ∀ (j i k : Nat), i + j = l.length → j < k → api_Midi_45.l0 k l (l.length : Int) (i : Int) = some (fIdx isEnd (l.drop i) i)
  | 0, i, k, hj, hk => by
    obtain ⟨k, rfl⟩ : ∃ m, k = m + 1 := ⟨k - 1, by omega⟩
    simp only [api_Midi_45.l0]
    rw [if_neg (by omega), List.drop_eq_nil_of_le (by omega)]
    rfl
  | j + 1, i, k, hj, hk => by
    obtain ⟨k, rfl⟩ : ∃ m, k = m + 1 := ⟨k - 1, by omega⟩
    simp only [api_Midi_45.l0]
    rw [if_pos (by omega), if_pos (by omega), if_pos (by omega), last_f, Option.bind_some]
    have e1 : wrap64 ((i : Int) + 1) = ((i + 1 : Nat) : Int) := by rw [w64 (by omega) (by omega)]; omega
    rw [rd_drop l i (by omega), fIdx, e1, idx60_l0 l hl j (i + 1) k (by omega) (by omega)]
    split <;> rfl
theorem idx60_ev (l : List Msg) (hl : l.length ≤ 1000000000) : Ev (fun k => api_Midi_45.f k l) (fIdx isEnd l 0) :=
  ⟨l.length + 1, fun k hk => idx60_l0 l hl l.length 0 k (by omega) (by omega)⟩
def wrongM (m : Msg) : Bool := !decide (Right m)
theorem check1_f (m : Msg) (k : Nat) (hk : 6 ≤ k) : smf_Check_1.f k m.f0 m.f1 m.f2 m.f3 m.f4 m.f5 = some (wrongM m) := by
  unfold smf_Check_1.f
  rw [right_f m k hk]
  rfl
theorem idx31_l0 (l : List Msg) (hl : l.length ≤ 1000000000) : ∀ (j i k : Nat), i + j = l.length → j + 6 < k → smf_Parse_1.l0 k l (l.length : Int) (i : Int) = some (fIdx wrongM (l.drop i) i)
  | 0, i, k, hj, hk => by
    obtain ⟨k, rfl⟩ : ∃ m, k = m + 1 := ⟨k - 1, by omega⟩
    simp only [smf_Parse_1.l0]
    rw [if_neg (by omega), List.drop_eq_nil_of_le (by omega)]
    rfl
  | j + 1, i, k, hj, hk => by
    obtain ⟨k, rfl⟩ : ∃ m, k = m + 1 := ⟨k - 1, by omega⟩
    simp only [smf_Parse_1.l0]
    rw [if_pos (by omega), if_pos (by omega), if_pos (by omega), check1_f _ k (by omega), Option.bind_some]
    have e1 : wrap64 ((i : Int) + 1) = ((i + 1 : Nat) : Int) := by rw [w64 (by omega) (by omega)]; omega
    rw [rd_drop l i (by omega), fIdx, e1, idx31_l0 l hl j (i + 1) k (by omega) (by omega)]
    split <;> rfl
theorem fIdx_none {p : Msg → Bool} : ∀ {l : List Msg} {i : Nat}, (∀ m ∈ l, p m = false) → fIdx p l i = -1
  | [], _, _ => rfl
  | m :: r, i, h => by
    rw [fIdx, if_neg (by rw [h m (by simp)]; decide)]
    exact fIdx_none (fun x hx => h x (by simp [hx]))
theorem fIdx_some {p : Msg → Bool} : ∀ {l : List Msg} {i : Nat}, (∃ m ∈ l, p m = true) → 0 ≤ fIdx p l i ∧ (i : Int) ≤ fIdx p l i ∧ fIdx p l i < i + l.length
  | [], _, h => by obtain ⟨m, hm, _⟩ := h; cases hm
  | m :: r, i, h => by
    rw [fIdx]
    by_cases c : p m = true
    · rw [if_pos c, List.length_cons]; omega
    · rw [if_neg c]
      obtain ⟨x, hx, hp⟩ := h
      rcases List.mem_cons.1 hx with rfl | hx
      · exact absurd hp c
      · have := fIdx_some (p := p) (l := r) (i := i + 1) ⟨x, hx, hp⟩
        rw [List.length_cons]
        omega
theorem odd_ev (l : List Msg) (hl : l.length ≤ 1000000000) : Ev (fun k => api_Midi_27.f k l) (l.any wrongM) := by
  have h : Ev (fun k => smf_Parse_1.f k l) (fIdx wrongM l 0) := ⟨l.length + 7, fun k hk => idx31_l0 l hl l.length 0 k (by omega) (by omega)⟩
  refine Ev.ok (Ev.bind h (Ev.now _)) ?_
  by_cases c : ∃ m ∈ l, wrongM m = true
  · have := (fIdx_some (i := 0) c).1
    rw [decide_eq_true (by omega)]
    exact (List.any_eq_true.2 c).symm
  · have h2 : ∀ m ∈ l, wrongM m = false := fun m hm => by
      cases hw : wrongM m
      · rfl
      · exact absurd ⟨m, hm, hw⟩ c
    rw [fIdx_none h2]
    rw [Bool.eq_false_iff.2 (fun hc => c (List.any_eq_true.1 hc))]
    rfl
theorem any_wrong (l : List Msg) : l.any wrongM = true ↔ ¬ Rights l := by
  rw [List.any_eq_true]
  unfold wrongM Rights
  constructor
  · rintro ⟨m, hm, h⟩ hr
    simp [hr m hm] at h
  · intro h
    refine Classical.byContradiction fun hn => h fun m hm => Classical.byContradiction fun hc => hn ⟨m, hm, by simp [hc]⟩
def endsB : List Msg → Bool
  | [] => false
  | [m] => isEnd m
  | m :: n :: r => !isEnd m && endsB (n :: r)
theorem fIdx_ends : ∀ (l : List Msg) (i : Nat), l ≠ [] → (fIdx isEnd l i == (i : Int) + l.length - 1) = endsB l
  | [], _, h => absurd rfl h
  | [m], i, _ => by
    rw [fIdx, endsB]
    cases isEnd m
    · simp [fIdx] <;> omega
    · simp
  | m :: n :: r, i, _ => by
    rw [fIdx, endsB]
    have ih := fIdx_ends (n :: r) (i + 1) (by simp)
    cases isEnd m
    · rw [if_neg (by decide), ← ih]
      simp only [List.length_cons, Bool.not_false, Bool.true_and]
      congr 1
      omega
    · rw [if_pos rfl]
      simp only [List.length_cons, Bool.not_true, Bool.false_and]
      exact beq_eq_false_iff_ne.mpr (by omega)
theorem ends_ev (l : List Msg) (hl : l.length ≤ 1000000000) : Ev (fun k => smf_ends.f k l) (endsB l) := by
  by_cases c : (l.length : Int) > 0
  · refine Ev.yes c (Ev.ok (Ev.bind (idx60_ev l hl) (Ev.now _)) ?_)
    rw [w64 (by omega) (by omega), ← fIdx_ends l 0 (by intro h; rw [h] at c; simp at c)]
    simp
  · refine Ev.no c (Ev.ok (Ev.now _) ?_)
    have : l = [] := List.eq_nil_of_length_eq_zero (by omega)
    rw [this]
    rfl
theorem endsB_ne {l : List Msg} (h : endsB l = true) : l ≠ [] := by rintro rfl; cases h
noncomputable def checkL : List (List Msg) → Int → Int × Int
  | [], _ => (0, 0)
  | l :: r, i => if l.any wrongM = true then (i, 151) else if endsB l = true then checkL r (i + 1) else (i, 160)
def headBad (f d : Int) (n : Nat) : Bool := decide (f < 0) || decide (f > 1) || decide (d < 1) || decide (d > 32767) || decide (n < 1) || decide (n > 16) || (decide (n > 1) && decide (f = 0))
noncomputable def checkM (f d : Int) (ts : List (List Msg)) : Int × Int := if headBad f d ts.length = true then (0, 160) else checkL ts 0
theorem rdL_drop (l : List (List Msg)) (i : Nat) (h : i < l.length) : l.drop i = rd_L4 l (i : Int) :: l.drop (i + 1) := by
  rw [List.drop_eq_getElem_cons h]
  unfold rd_L4
  rw [Int.toNat_natCast, List.getD_eq_getElem?_getD, List.getElem?_eq_getElem h]
  rfl
theorem rdL_mem (l : List (List Msg)) (i : Nat) (h : i < l.length) : rd_L4 l (i : Int) ∈ l := by
  unfold rd_L4
  rw [Int.toNat_natCast, List.getD_eq_getElem?_getD, List.getElem?_eq_getElem h]
  exact List.getElem_mem h
def Small (ts : List (List Msg)) : Prop := ts.length ≤ 1000000000 ∧ ∀ l ∈ ts, l.length ≤ 1000000000
theorem check_l0 (ts : List (List Msg)) (hs : Small ts) : ∀ (j i : Nat), i + j = ts.length → Ev (fun k => smf_Check.l0 k ts (ts.length : Int) (i : Int)) (checkL (ts.drop i) i)
  | 0, i, hj => by
    refine Ev.step (fun k => by rw [smf_Check.l0]) ?_
    refine Ev.no (by omega) (Ev.ok (Ev.now _) ?_)
    rw [List.drop_eq_nil_of_le (by omega)]
    rfl
  | j + 1, i, hj => by
    refine Ev.step (fun k => by rw [smf_Check.l0]) ?_
    refine Ev.yes (by omega) (Ev.yes (by omega) (Ev.yes (by omega) ?_))
    have hl : (rd_L4 ts (i : Int)).length ≤ 1000000000 := hs.2 _ (rdL_mem ts i (by omega))
    refine Ev.bind (odd_ev _ hl) ?_
    rw [rdL_drop ts i (by omega), checkL]
    have e1 : wrap64 ((i : Int) + 1) = ((i + 1 : Nat) : Int) := by have := hs.1; rw [w64 (by omega) (by omega)]; omega
    by_cases c : (rd_L4 ts (i : Int)).any wrongM = true
    · rw [if_pos c]
      exact Ev.yes c (Ev.now _)
    · rw [if_neg c]
      refine Ev.no c (Ev.bind (ends_ev _ hl) ?_)
      by_cases c2 : endsB (rd_L4 ts (i : Int)) = true
      · rw [if_pos c2]
        refine Ev.yes c2 ?_
        rw [e1]
        have := check_l0 ts hs j (i + 1) (by omega)
        rw [show (((i + 1 : Nat) : Int)) = (i : Int) + 1 by omega] at this ⊢
        exact this
      · rw [if_neg c2]
        exact Ev.no c2 (Ev.now _)
theorem check_j0 (f d : Int) (ts : List (List Msg)) (hs : Small ts) (b : Bool) : Ev (fun k => smf_Check.j0 k b f d ts) (if b = true then (0, 160) else checkL ts 0) := by
  refine Ev.step (fun k => by rw [smf_Check.j0]) ?_
  cases b
  · exact Ev.no (by decide) (check_l0 ts hs ts.length 0 (by omega))
  · exact Ev.yes rfl (Ev.now _)
theorem check_ev (f d : Int) (ts : List (List Msg)) (hs : Small ts) : Ev (fun k => smf_Check.f k f d ts) (checkM f d ts) := by
  unfold checkM headBad
  show Ev (fun k => if f < 0 then _ else _) _
  by_cases c1 : f < 0
  · exact Ev.yes c1 (Ev.ok (check_j0 f d ts hs true) (by simp [c1]))
  refine Ev.no c1 ?_
  by_cases c2 : f > 1
  · exact Ev.yes c2 (Ev.ok (check_j0 f d ts hs true) (by simp [c2]))
  refine Ev.no c2 ?_
  by_cases c3 : d < 1
  · exact Ev.yes c3 (Ev.ok (check_j0 f d ts hs true) (by simp [c3]))
  refine Ev.no c3 ?_
  by_cases c4 : d > 32767
  · exact Ev.yes c4 (Ev.ok (check_j0 f d ts hs true) (by simp [c4]))
  refine Ev.no c4 ?_
  by_cases c5 : (ts.length : Int) < 1
  · have c5' : ts.length < 1 := by omega
    exact Ev.yes c5 (Ev.ok (check_j0 f d ts hs true) (by simp [c5']))
  refine Ev.no c5 ?_
  have c5' : ¬ ts.length < 1 := by omega
  by_cases c6 : (ts.length : Int) > 16
  · have c6' : ts.length > 16 := by omega
    exact Ev.yes c6 (Ev.ok (check_j0 f d ts hs true) (by simp [c6']))
  refine Ev.no c6 ?_
  have c6' : ¬ ts.length > 16 := by omega
  by_cases c7 : (ts.length : Int) > 1
  · have c7' : ts.length > 1 := by omega
    refine Ev.yes c7 (Ev.ok (check_j0 f d ts hs (f == 0)) ?_)
    by_cases c8 : f = 0 <;> simp [c1, c2, c3, c4, c5', c6', c7', c8]
  · have c7' : ¬ ts.length > 1 := by omega
    refine Ev.no c7 (Ev.ok (check_j0 f d ts hs false) ?_)
    simp [c1, c2, c3, c4, c5', c6', c7']
theorem checkL_ok : ∀ {ts : List (List Msg)} {i : Int}, (∀ l ∈ ts, Rights l ∧ endsB l = true) → checkL ts i = (0, 0)
  | [], _, _ => rfl
  | l :: r, i, h => by
    obtain ⟨h1, h2⟩ := h l (by simp)
    rw [checkL, if_neg (fun c => (any_wrong l).1 c h1), if_pos h2]
    exact checkL_ok (fun x hx => h x (by simp [hx]))
theorem checkL_e : ∀ {ts : List (List Msg)} {i : Int}, (checkL ts i).2 = 0 → ∀ l ∈ ts, Rights l ∧ endsB l = true
  | [], _, _ => fun l hl => by cases hl
  | l :: r, i, h => by
    rw [checkL] at h
    by_cases c : l.any wrongM = true
    · rw [if_pos c] at h; cases h
    · rw [if_neg c] at h
      by_cases c2 : endsB l = true
      · rw [if_pos c2] at h
        intro x hx
        rcases List.mem_cons.1 hx with rfl | hx
        · exact ⟨Classical.byContradiction fun hn => c ((any_wrong x).2 hn), c2⟩
        · exact checkL_e h x hx
      · rw [if_neg c2] at h; cases h
noncomputable instance : DecidableEq Msg := fun a b => Classical.propDecidable _
end Go.Proofs.YtdmnknhlibaaoaaDoor.Z
namespace Go.Proofs.YtdmnknhlibaaoaaDoor.Z
open Go.RowKit Go.Proofs.YtdmnknhlibaaoaaDoorW.PrintWords Go.Proofs.YtdmnknhlibaaoaaDoorW.PrintLast Go.Proofs.YtdmnknhlibaaoaaDoor.M
set_option linter.unusedVariables false
def two (n : Int) : List Int := [n / 256 % 256, n % 256]
def four (n : Int) : List Int := [n / 16777216 % 256, n / 65536 % 256, n / 256 % 256, n % 256]
def nameL : List Int := [77, 84, 104, 100, 0, 0, 0, 6]
def trkL : List Int := [77, 84, 114, 107]
def trkB (l : List Msg) : List Int := trkL ++ (four (enc 0 l).length ++ enc 0 l)
def trksB : List (List Msg) → List Int
  | [] => []
  | l :: r => trkB l ++ trksB r
def headB (f d : Int) (n : Nat) : List Int := nameL ++ (two f ++ (two n ++ two d))
def fileB (f d : Int) (ts : List (List Msg)) : List Int := headB f d ts.length ++ trksB ts
def totT : List (List Msg) → Nat
  | [] => 0
  | l :: r => tot l + 8 + totT r
theorem totT_mem : ∀ {ts : List (List Msg)} {l : List Msg}, l ∈ ts → tot l ≤ totT ts
  | l :: r, x, h => by
    rw [totT]
    rcases List.mem_cons.1 h with rfl | h
    · omega
    · have := totT_mem h; omega
theorem trkB_len (l : List Msg) : (trkB l).length = (enc 0 l).length + 8 := by
  unfold trkB trkL four
  simp only [List.length_append, List.length_cons, List.length_nil]
  omega
theorem trksB_len : ∀ ts : List (List Msg), (trksB ts).length ≤ totT ts
  | [] => Nat.le_refl _
  | l :: r => by
    rw [trksB, totT, List.length_append, trkB_len]
    have := enc_tot l 0
    have := trksB_len r
    omega
theorem headB_len (f d : Int) (n : Nat) : (headB f d n).length = 14 := rfl
theorem four_bytes (n : Int) : Bytes (four n) := by
  unfold four
  exact .cons (by omega) (by omega) (.cons (by omega) (by omega) (.cons (by omega) (by omega) (.cons (by omega) (by omega) .nil)))
theorem two_bytes (n : Int) : Bytes (two n) := by
  unfold two
  exact .cons (by omega) (by omega) (.cons (by omega) (by omega) .nil)
theorem trkL_bytes : Bytes trkL := by
  unfold trkL
  intro x hx
  simp only [List.mem_cons, List.not_mem_nil, or_false] at hx
  omega
theorem nameL_bytes : Bytes nameL := by
  unfold nameL
  intro x hx
  simp only [List.mem_cons, List.not_mem_nil, or_false] at hx
  omega
theorem trkB_bytes {l : List Msg} (h : Rights l) : Bytes (trkB l) := trkL_bytes.append ((four_bytes _).append (enc_bytes h))
theorem trksB_bytes : ∀ {ts : List (List Msg)}, (∀ l ∈ ts, Rights l) → Bytes (trksB ts)
  | [], _ => .nil
  | l :: r, h => (trkB_bytes (h l (by simp))).append (trksB_bytes (fun x hx => h x (by simp [hx])))
theorem headB_bytes (f d : Int) (n : Nat) : Bytes (headB f d n) := nameL_bytes.append ((two_bytes _).append ((two_bytes _).append (two_bytes _)))
theorem fileB_bytes {f d : Int} {ts : List (List Msg)} (h : ∀ l ∈ ts, Rights l) : Bytes (fileB f d ts) := (headB_bytes _ _ _).append (trksB_bytes h)
def fin (o : List Int) : ByteArray × Int := if (o.length : Int) > 100000 then (⟨#[]⟩, 160) else (strOfNums o, 0)
theorem print_l1 (ts : List (List Msg)) (hl : ts.length ≤ 1000000000) (hr : ∀ l ∈ ts, Rights l ∧ tot l ≤ 1000000000) : ∀ (j i : Nat) (out : List Int), i + j = ts.length → out.length + totT (ts.drop i) ≤ 2000000000 →
    Ev (fun k => smf_Print.l1 k out ts (ts.length : Int) (i : Int)) (fin (out ++ trksB (ts.drop i)))
  | 0, i, out, hj, ho => by
    refine Ev.step (fun k => by rw [smf_Print.l1]) ?_
    refine Ev.no (by omega) ?_
    rw [List.drop_eq_nil_of_le (by omega), trksB, List.append_nil]
    unfold fin
    by_cases c : (out.length : Int) > 100000
    · exact Ev.yes c (Ev.ok (Ev.now _) (by rw [if_pos c]))
    · exact Ev.no c (Ev.ok (Ev.now _) (by rw [if_neg c]))
  | j + 1, i, out, hj, ho => by
    have hm := rdL_mem ts i (by omega)
    have hd := rdL_drop ts i (by omega)
    rw [hd, totT] at ho
    generalize hlt : rd_L4 ts (i : Int) = l at *
    obtain ⟨h1, h2⟩ := hr l hm
    have hen := enc_tot l 0
    have hsz : (strOfNums (enc 0 l)).size = (enc 0 l).length := str_size _
    have hb : bytesOf (strOfNums (enc 0 l)) = enc 0 l := bytesOf_str (enc_bytes h1)
    have e1 : wrap64 ((i : Int) + 1) = ((i + 1 : Nat) : Int) := by rw [w64 (by omega) (by omega)]; omega
    refine Ev.step (fun k => by rw [smf_Print.l1]) ?_
    refine Ev.yes (by omega) (Ev.yes (by omega) (Ev.yes (by omega) ?_))
    rw [hlt]
    refine Ev.bind (encode_ok h1 h2) ?_
    dsimp only
    refine Ev.yes (by omega) (Ev.bind (Ev.now _) (Ev.bind (Ev.now _) ?_))
    have hy : bytesOf (⟨#[77, 84, 114, 107]⟩ : ByteArray) = trkL := rfl
    rw [hy, hsz]
    have hlen : trkL.length = 4 := rfl
    refine Ev.yes (by rw [List.length_append, hlen]; simp only [List.length_cons, List.length_nil]; omega) (Ev.bind (Ev.now _) (Ev.yes ?_ ?_))
    · rw [List.length_append, List.length_append, hlen]; simp only [List.length_cons, List.length_nil]; omega
    · rw [hb, e1, hd, trksB]
      have ih := print_l1 ts hl hr j (i + 1) (out ++ trkB l) (by omega) (by rw [List.length_append, trkB_len]; omega)
      have e2 : out ++ trkL ++ [((enc 0 l).length : Int) / 16777216 % 256, ((enc 0 l).length : Int) / 65536 % 256, ((enc 0 l).length : Int) / 256 % 256, ((enc 0 l).length : Int) % 256] ++ enc 0 l = out ++ trkB l := by
        unfold trkB four
        simp only [List.append_assoc]
      rw [e2]
      rw [List.append_assoc] at ih
      exact ih
theorem print_ev (f d : Int) (ts : List (List Msg)) (hs : Small ts) (ht : totT ts ≤ 1000000000) :
    Ev (fun k => smf_Print.f k f d ts) (if (checkM f d ts).2 = 0 then fin (fileB f d ts) else (⟨#[]⟩, (checkM f d ts).2)) := by
  refine Ev.bind (check_ev f d ts hs) ?_
  by_cases c : (checkM f d ts).2 = 0
  · rw [if_pos c]
    refine Ev.yes c (Ev.bind (Ev.now _) ?_)
    have hr : ∀ l ∈ ts, Rights l ∧ tot l ≤ 1000000000 := by
      intro l hl
      have h2 : (checkL ts 0).2 = 0 := by
        unfold checkM at c
        split at c
        · cases c
        · exact c
      exact ⟨(checkL_e h2 l hl).1, Nat.le_trans (totT_mem hl) ht⟩
    have hlen : ([f, (ts.length : Int), d] : List Int).length = 3 := rfl
    rw [hlen]
    refine Ev.step (fun k => by rw [smf_Print.l0]) ?_
    refine Ev.yes (by decide) (Ev.yes (by decide) (Ev.yes (by simp) (Ev.bind (Ev.now _) (Ev.yes (by simp) ?_))))
    rw [show wrap64 ((0 : Int) + 1) = 1 from by rw [w64 (by decide) (by decide)]; rfl]
    refine Ev.step (fun k => by rw [smf_Print.l0]) ?_
    refine Ev.yes (by decide) (Ev.yes (by decide) (Ev.yes (by simp) (Ev.bind (Ev.now _) (Ev.yes (by simp) ?_))))
    rw [show wrap64 ((1 : Int) + 1) = 2 from by rw [w64 (by decide) (by decide)]; rfl]
    refine Ev.step (fun k => by rw [smf_Print.l0]) ?_
    refine Ev.yes (by decide) (Ev.yes (by decide) (Ev.yes (by simp) (Ev.bind (Ev.now _) (Ev.yes (by simp) ?_))))
    rw [show wrap64 ((2 : Int) + 1) = 3 from by rw [w64 (by decide) (by decide)]; rfl]
    refine Ev.step (fun k => by rw [smf_Print.l0]) ?_
    refine Ev.no (by decide) ?_
    have h := print_l1 ts hs.1 hr ts.length 0 (headB f d ts.length) (by omega) (by rw [headB_len, List.drop_zero]; omega)
    rw [List.drop_zero] at h
    exact h
  · rw [if_neg c]
    exact Ev.no c (Ev.now _)
end Go.Proofs.YtdmnknhlibaaoaaDoor.Z
namespace Go.Proofs.YtdmnknhlibaaoaaDoor.Z
open Go.RowKit Go.Proofs.YtdmnknhlibaaoaaDoorW.PrintWords Go.Proofs.YtdmnknhlibaaoaaDoor.M
def endM (d : Int) : Msg := ⟨d, 16, 0, 47, 0, ⟨#[]⟩⟩
end Go.Proofs.YtdmnknhlibaaoaaDoor.Z
namespace Go.Proofs.YtdmnknhlibaaoaaDoor.Z
open Go.RowKit Go.Proofs.YtdmnknhlibaaoaaDoorW.PrintWords Go.Proofs.YtdmnknhlibaaoaaDoorW.PrintLast Go.Proofs.YtdmnknhlibaaoaaDoorW.PrintMore Go.Proofs.YtdmnknhlibaaoaaDoor.M
set_option linter.unusedVariables false
def val4 (b : List Int) : Int := ((rd b 0 * 256 + rd b 1) * 256 + rd b 2) * 256 + rd b 3
theorem val4_four {n : Int} (h0 : 0 ≤ n) (h1 : n < 4294967296) : val4 (four n) = n := by
  show ((n / 16777216 % 256 * 256 + n / 65536 % 256) * 256 + n / 256 % 256) * 256 + n % 256 = n
  omega
theorem numB_eq (t : ByteArray) : numB t 4 = val4 (bytesOf t) := by
  have b0 := bt_range t ((0 : Nat) : Int)
  have b1 := bt_range t ((1 : Nat) : Int)
  have b2 := bt_range t ((2 : Nat) : Int)
  have b3 := bt_range t ((3 : Nat) : Int)
  obtain ⟨r1, r2, r3, _⟩ := numB_range t
  have e0 : numB t 0 = 0 := rfl
  have e1 : numB t 1 = numB t 0 * 256 + bt t ((0 : Nat) : Int) := numB_step (t := t) (k := 0) (by omega) (by omega)
  have e2 : numB t 2 = numB t 1 * 256 + bt t ((1 : Nat) : Int) := numB_step (t := t) (k := 1) (by omega) (by omega)
  have e3 : numB t 3 = numB t 2 * 256 + bt t ((2 : Nat) : Int) := numB_step (t := t) (k := 2) (by omega) (by omega)
  have e4 : numB t 4 = numB t 3 * 256 + bt t ((3 : Nat) : Int) := numB_step (t := t) (k := 3) (by omega) (by omega)
  rw [e4, e3, e2, e1, e0]
  unfold val4
  rw [rd_bytesOf, rd_bytesOf, rd_bytesOf, rd_bytesOf]
  simp
theorem body_e {d c e : Int} {r : List Int} (h : body d c r = .error e) : e ≠ 0 := by
  by_cases c1 : c = 255
  · subst c1
    rw [body_255] at h
    cases hl : low r with
    | error e' => rw [hl] at h; injection h with h; subst h; rcases low_e hl with rfl | rfl <;> decide
    | ok x =>
      obtain ⟨a, r1⟩ := x
      rw [hl] at h
      dsimp only at h
      cases hd : dat r1 with
      | error e' => rw [hd] at h; injection h with h; subst h; rcases dat_e hd with rfl | rfl | rfl <;> decide
      | ok y => obtain ⟨bs, r2⟩ := y; rw [hd] at h; cases h
  · by_cases c2 : c ≥ 240
    · rw [body_sys c1 c2] at h
      cases hd : dat r with
      | error e' => rw [hd] at h; injection h with h; subst h; rcases dat_e hd with rfl | rfl | rfl <;> decide
      | ok y => obtain ⟨bs, r2⟩ := y; rw [hd] at h; cases h
    · rw [body_key (by omega)] at h
      cases hl : low r with
      | error e' => rw [hl] at h; injection h with h; subst h; rcases low_e hl with rfl | rfl <;> decide
      | ok x =>
        obtain ⟨a, r1⟩ := x
        rw [hl] at h
        dsimp only at h
        by_cases c3 : c / 16 = 12 ∨ c / 16 = 13
        · rw [if_pos c3] at h; cases h
        · rw [if_neg c3] at h
          cases hl2 : low r1 with
          | error e' => rw [hl2] at h; injection h with h; subst h; rcases low_e hl2 with rfl | rfl <;> decide
          | ok y => obtain ⟨b, r2⟩ := y; rw [hl2] at h; cases h
theorem msg_e {l e : Int} {r : List Int} (h : msg l r = .error e) : e ≠ 0 := by
  cases hv : vlq 4 0 r with
  | error e' => unfold msg at h; rw [hv] at h; injection h with h; subst h; rcases vlq_e hv with rfl | rfl <;> decide
  | ok x =>
    obtain ⟨d, r1⟩ := x
    cases r1 with
    | nil => unfold msg at h; rw [hv] at h; injection h with h; subst h; decide
    | cons c r1 =>
      rw [msg_at hv] at h
      by_cases c1 : c < 128
      · rw [if_pos c1] at h
        by_cases c2 : l = 0
        · rw [if_pos c2] at h; injection h with h; subst h; decide
        · rw [if_neg c2] at h; exact body_e h
      · rw [if_neg c1] at h
        by_cases c2 : c > 240 ∧ c ≠ 247 ∧ c ≠ 255
        · rw [if_pos c2] at h; injection h with h; subst h; decide
        · rw [if_neg c2] at h; exact body_e h
theorem bad_e {l e : Int} {r : List Int} {n : Nat} (h : Bad l r e n) : e ≠ 0 := by
  induction h with
  | here _ hm => exact msg_e hm
  | later _ _ ih => exact ih
inductive ChR : List Int → Except (Nat × Int) (List Msg × List Int) → Prop
  | short {r : List Int} : r.length < 8 → ChR r (.error (0, 152))
  | cut {t b rest : List Int} : t.length = 4 → b.length = 4 → (rest.length : Int) < val4 b → ChR (t ++ (b ++ rest)) (.error (0, 152))
  | other {t b d rest : List Int} : t.length = 4 → b.length = 4 → (d.length : Int) = val4 b → t ≠ trkL → ChR (t ++ (b ++ (d ++ rest))) (.ok ([], rest))
  | track {b d rest : List Int} {ms : List Msg} : b.length = 4 → (d.length : Int) = val4 b → Dec 0 d ms → endsB ms = true → ChR (trkL ++ (b ++ (d ++ rest))) (.ok (ms, rest))
  | noend {b d rest : List Int} {ms : List Msg} : b.length = 4 → (d.length : Int) = val4 b → Dec 0 d ms → endsB ms = false → ChR (trkL ++ (b ++ (d ++ rest))) (.error (d.length + rest.length, 160))
  | bad {b d rest : List Int} {e : Int} {j : Nat} : b.length = 4 → (d.length : Int) = val4 b → Bad 0 d e j → ChR (trkL ++ (b ++ (d ++ rest))) (.error (j + rest.length, e))
def chAt (s : ByteArray) : Except (Nat × Int) (List Msg × List Int) → Except (Int × Int) (List S39 × Int)
  | .error (n, e) => .error ((s.size : Int) - (n : Int), e)
  | .ok (ms, r) => .ok (ms, pos s r)
theorem suf_len {s : ByteArray} {r : List Int} (h : Suf s r) : r.length ≤ s.size := by have := h.len; omega
theorem pos_app {s : ByteArray} {a r : List Int} : pos s r = pos s (a ++ r) + (a.length : Int) := by unfold pos; rw [List.length_append]; omega
theorem suf_extract {s : ByteArray} {a r : List Int} (h : Suf s (a ++ r)) : bytesOf (s.extract (pos s (a ++ r)).toNat (pos s (a ++ r) + (a.length : Int)).toNat) = a := by
  rw [bytesOf_extract, pos_drop h]
  have h0 := pos_nonneg h
  have : (pos s (a ++ r) + (a.length : Int)).toNat - (pos s (a ++ r)).toNat = a.length := by omega
  rw [this, List.take_left]
theorem toList_bytes (s t : ByteArray) : s.toList = t.toList ↔ bytesOf s = bytesOf t := ⟨fun h => by rw [toList_eq.1 h], fun h => by rw [bytesOf_inj h]⟩
theorem trk_list : ([77, 84, 114, 107] : List UInt8) = (⟨#[77, 84, 114, 107]⟩ : ByteArray).toList := by rw [Lib.toList_data]
theorem bytesOf_len_size {s : ByteArray} {l : List Int} (h : bytesOf s = l) : s.size = l.length := by rw [← h, bytesOf_length]
section
variable {s : ByteArray} (hs : s.size ≤ 100000)
include hs
theorem chunk_track {b d rest : List Int} (h : Suf s (trkL ++ (b ++ (d ++ rest)))) (hb : b.length = 4) (hd : (d.length : Int) = val4 b) {o : Except (Int × Int) (List S39 × Int)}
    (k : ∀ t : ByteArray, bytesOf t = d → t.size ≤ 1000000000 → Ev (fun k => (wire_Decode.f k t).bind fun x => if x.2.2 = 0 then (smf_ends.f k x.1).bind fun q => if q = true then some (.ok (x.1, pos s rest)) else some (.error (pos s (d ++ rest), 160)) else some (.error (wrap64 (pos s (d ++ rest) + x.2.1), x.2.2))) o) :
    Ev (fun k => chunkF k s (pos s (trkL ++ (b ++ (d ++ rest))))) o := by
  have hl := suf_len h
  simp only [List.length_append] at hl
  have h4 : trkL.length = 4 := rfl
  have p0 := pos_nonneg h
  have p1 : pos s (b ++ (d ++ rest)) = pos s (trkL ++ (b ++ (d ++ rest))) + 4 := pos_app
  have p2 : pos s (d ++ rest) = pos s (trkL ++ (b ++ (d ++ rest))) + 8 := by have := pos_app (s := s) (a := b) (r := d ++ rest); omega
  have p3 : pos s rest = pos s (d ++ rest) + (d.length : Int) := pos_app
  have hp : pos s (trkL ++ (b ++ (d ++ rest))) = (s.size : Int) - (4 + (4 + (d.length + rest.length)) : Nat) := by unfold pos; simp only [List.length_append, h4, hb]
  have hn : numB (s.extract (pos s (trkL ++ (b ++ (d ++ rest))) + 4).toNat (pos s (trkL ++ (b ++ (d ++ rest))) + 8).toNat) 4 = (d.length : Int) := by
    rw [numB_eq, hd]
    refine congrArg val4 ?_
    have := suf_extract (s := s) (a := b) (r := d ++ rest) h.of
    rw [p1, hb, show (((4 : Nat) : Int)) = 4 from rfl, show pos s (trkL ++ (b ++ (d ++ rest))) + 4 + 4 = pos s (trkL ++ (b ++ (d ++ rest))) + 8 by omega] at this
    exact this
  have ht : bytesOf (s.extract (pos s (trkL ++ (b ++ (d ++ rest)))).toNat (pos s (trkL ++ (b ++ (d ++ rest))) + 4).toNat) = trkL := suf_extract h
  have hx : bytesOf (s.extract (pos s (trkL ++ (b ++ (d ++ rest))) + 8).toNat (pos s (trkL ++ (b ++ (d ++ rest))) + 8 + (d.length : Int)).toNat) = d := by
    have := suf_extract (s := s) (a := d) (r := rest) h.of.of
    rw [p2] at this
    exact this
  have hk := k _ hx (by have := bytesOf_len_size hx; omega)
  rw [p3, p2] at hk
  unfold chunkF
  rw [hn]
  generalize pos s (trkL ++ (b ++ (d ++ rest))) = p at *
  refine Ev.no (by omega) (Ev.no (by omega) (Ev.no (by omega) (Ev.yes ?_ hk)))
  rw [trk_list, toList_bytes, ht]
  rfl
theorem chunk_ev {r : List Int} {o : Except (Nat × Int) (List Msg × List Int)} (h : ChR r o) (hr : Suf s r) : Ev (fun k => chunkF k s (pos s r)) (chAt s o) := by
  cases h with
  | short h =>
    have hp : pos s r = (s.size : Int) - (r.length : Int) := rfl
    unfold chunkF
    by_cases c : (s.size : Int) - pos s r < 4
    · exact Ev.yes c (Ev.ok (Ev.now _) (by unfold chAt; simp))
    · exact Ev.no c (Ev.yes (by omega) (Ev.ok (Ev.now _) (by unfold chAt; simp)))
  | @cut t b rest ht hb h =>
    have p0 := pos_nonneg hr
    have p1 : pos s (b ++ rest) = pos s (t ++ (b ++ rest)) + 4 := by have := pos_app (s := s) (a := t) (r := b ++ rest); omega
    have hp : pos s (t ++ (b ++ rest)) = (s.size : Int) - (4 + (4 + rest.length) : Nat) := by unfold pos; simp only [List.length_append, ht, hb]
    have hn : numB (s.extract (pos s (t ++ (b ++ rest)) + 4).toNat (pos s (t ++ (b ++ rest)) + 8).toNat) 4 = val4 b := by
      rw [numB_eq]
      refine congrArg val4 ?_
      have := suf_extract (s := s) (a := b) (r := rest) hr.of
      rw [p1, hb, show (((4 : Nat) : Int)) = 4 from rfl, show pos s (t ++ (b ++ rest)) + 4 + 4 = pos s (t ++ (b ++ rest)) + 8 by omega] at this
      exact this
    unfold chunkF
    rw [hn]
    refine Ev.no (by omega) (Ev.no (by omega) (Ev.yes (by omega) (Ev.ok (Ev.now _) (by unfold chAt; simp))))
  | @other t b d rest ht hb hd hne =>
    have p0 := pos_nonneg hr
    have p1 : pos s (b ++ (d ++ rest)) = pos s (t ++ (b ++ (d ++ rest))) + 4 := by have := pos_app (s := s) (a := t) (r := b ++ (d ++ rest)); omega
    have p2 : pos s (d ++ rest) = pos s (t ++ (b ++ (d ++ rest))) + 8 := by have := pos_app (s := s) (a := b) (r := d ++ rest); omega
    have p3 : pos s rest = pos s (d ++ rest) + (d.length : Int) := pos_app
    have hp : pos s (t ++ (b ++ (d ++ rest))) = (s.size : Int) - (4 + (4 + (d.length + rest.length)) : Nat) := by unfold pos; simp only [List.length_append, ht, hb]
    have hn : numB (s.extract (pos s (t ++ (b ++ (d ++ rest))) + 4).toNat (pos s (t ++ (b ++ (d ++ rest))) + 8).toNat) 4 = (d.length : Int) := by
      rw [numB_eq, hd]
      refine congrArg val4 ?_
      have := suf_extract (s := s) (a := b) (r := d ++ rest) hr.of
      rw [p1, hb, show (((4 : Nat) : Int)) = 4 from rfl, show pos s (t ++ (b ++ (d ++ rest))) + 4 + 4 = pos s (t ++ (b ++ (d ++ rest))) + 8 by omega] at this
      exact this
    have htt : bytesOf (s.extract (pos s (t ++ (b ++ (d ++ rest)))).toNat (pos s (t ++ (b ++ (d ++ rest))) + 4).toNat) = t := by
      have := suf_extract (s := s) hr
      rw [ht] at this
      exact this
    have he : pos s (t ++ (b ++ (d ++ rest))) + 8 + (d.length : Int) = pos s rest := by omega
    unfold chunkF
    rw [hn, he]
    generalize pos s (t ++ (b ++ (d ++ rest))) = p at *
    refine Ev.no (by omega) (Ev.no (by omega) (Ev.no (by omega) (Ev.no ?_ (Ev.now _))))
    rw [trk_list, toList_bytes, htt]
    exact hne
  | @track b d rest ms hb hd hdec he =>
    refine chunk_track hs hr hb hd fun t ht hsz => ?_
    have h1 := decode_ok hsz (by rw [ht]; exact hdec)
    have hlen := (enc_dec (.inl rfl) (hr.of.of.bytes.left) hdec).2.2
    have hl := suf_len hr
    simp only [List.length_append] at hl
    refine Ev.bind h1 (Ev.yes rfl (Ev.bind (ends_ev ms (by omega)) (Ev.yes he (Ev.now _))))
  | @noend b d rest ms hb hd hdec he =>
    refine chunk_track hs hr hb hd fun t ht hsz => ?_
    have h1 := decode_ok hsz (by rw [ht]; exact hdec)
    have hlen := (enc_dec (.inl rfl) (hr.of.of.bytes.left) hdec).2.2
    have hl := suf_len hr
    simp only [List.length_append] at hl
    refine Ev.bind h1 (Ev.yes rfl (Ev.bind (ends_ev ms (by omega)) (Ev.no (by rw [he]; decide) (Ev.ok (Ev.now _) ?_))))
    unfold chAt pos
    simp only [List.length_append]
  | @bad b d rest e j hb hd hbad =>
    refine chunk_track hs hr hb hd fun t ht hsz => ?_
    have h1 := decode_err hsz (by rw [ht]; exact hbad)
    have hne := bad_e hbad
    have hj := bad_len hbad (.inl rfl) (hr.of.of.bytes.left)
    have hl := suf_len hr
    simp only [List.length_append] at hl
    have hsz2 := bytesOf_len_size ht
    refine Ev.bind h1 (Ev.no hne (Ev.ok (Ev.now _) ?_))
    unfold chAt
    dsimp only
    have hp : pos s (d ++ rest) = (s.size : Int) - ((d.length + rest.length : Nat) : Int) := by unfold pos; rw [List.length_append]
    rw [w64 (by omega) (by omega)]
    congr 2
    omega
end
end Go.Proofs.YtdmnknhlibaaoaaDoor.Z
namespace Go.Proofs.YtdmnknhlibaaoaaDoor.Z
open Go.RowKit Go.Proofs.YtdmnknhlibaaoaaDoorW.PrintWords Go.Proofs.YtdmnknhlibaaoaaDoorW.PrintLast Go.Proofs.YtdmnknhlibaaoaaDoorW.PrintMore Go.Proofs.YtdmnknhlibaaoaaDoor.M
set_option linter.unusedVariables false
inductive PrR : Nat → List Int → Except (Nat × Int) (List (List Msg) × List Int) → Prop
  | done (r : List Int) : PrR 0 r (.ok ([], r))
  | err {n : Nat} {r : List Int} {x : Nat × Int} : ChR r (.error x) → PrR (n + 1) r (.error x)
  | skip {n : Nat} {r r' : List Int} {o : Except (Nat × Int) (List (List Msg) × List Int)} : ChR r (.ok ([], r')) → PrR (n + 1) r' o → PrR (n + 1) r o
  | take {n : Nat} {r r' z : List Int} {l : List Msg} {ts : List (List Msg)} : ChR r (.ok (l, r')) → l ≠ [] → PrR n r' (.ok (ts, z)) → PrR (n + 1) r (.ok (l :: ts, z))
  | takeErr {n : Nat} {r r' : List Int} {l : List Msg} {x : Nat × Int} : ChR r (.ok (l, r')) → l ≠ [] → PrR n r' (.error x) → PrR (n + 1) r (.error x)
theorem ch_suf {s : ByteArray} {r r' : List Int} {l : List Msg} (h : ChR r (.ok (l, r'))) (hr : Suf s r) : Suf s r' := by
  cases h with
  | other => exact hr.of.of.of
  | track => exact hr.of.of.of
def prAt (s : ByteArray) (acc : List (List Msg)) : Except (Nat × Int) (List (List Msg) × List Int) → Except (Int × Int) (List (List S39) × Int)
  | .error (n, e) => .error ((s.size : Int) - (n : Int), e)
  | .ok (ts, r) => .ok (acc ++ ts, pos s r)
theorem parseL_ev {s : ByteArray} (hs : s.size ≤ 100000) {N : Int} {n : Nat} {r : List Int} {o : Except (Nat × Int) (List (List Msg) × List Int)} (h : PrR n r o) :
    ∀ (acc : List (List Msg)), Suf s r → (acc.length : Int) + n = N → N ≤ 255 → ∃ K, ∀ k, K ≤ k → ∀ m, K ≤ m → parseL k s N m (pos s r) acc = some (prAt s acc o) := by
  induction h with
  | done r =>
    intro acc hr hN hN2
    refine ⟨1, fun k hk m hm => ?_⟩
    obtain ⟨m, rfl⟩ : ∃ q, m = q + 1 := ⟨m - 1, by omega⟩
    rw [parseL, if_neg (by omega)]
    show some (Except.ok (acc, pos s r)) = some (Except.ok (acc ++ [], pos s r))
    rw [List.append_nil]
  | @err n r x hc =>
    intro acc hr hN hN2
    obtain ⟨K, hK'⟩ := chunk_ev hs hc hr
    have hK : ∀ k, K ≤ k → chunkF k s (pos s r) = some (chAt s (.error x)) := hK'
    refine ⟨K + 1, fun k hk m hm => ?_⟩
    obtain ⟨m, rfl⟩ : ∃ q, m = q + 1 := ⟨m - 1, by omega⟩
    rw [parseL, if_pos (by omega), hK k (by omega)]
    obtain ⟨a, e⟩ := x
    rfl
  | @skip n r r' o hc hp ih =>
    intro acc hr hN hN2
    obtain ⟨K, hK'⟩ := chunk_ev hs hc hr
    have hK : ∀ k, K ≤ k → chunkF k s (pos s r) = some (chAt s (.ok ([], r'))) := hK'
    obtain ⟨K2, hK2⟩ := ih acc (ch_suf hc hr) hN hN2
    refine ⟨K + K2 + 1, fun k hk m hm => ?_⟩
    obtain ⟨m, rfl⟩ : ∃ q, m = q + 1 := ⟨m - 1, by omega⟩
    rw [parseL, if_pos (by omega), hK k (by omega)]
    show (if ([] : List S39).length = 0 then parseL k s N m (pos s r') acc else if acc.length < 5864062014805 then parseL k s N m (pos s r') (acc ++ [[]]) else none) = _
    rw [if_pos List.length_nil]
    exact hK2 k (by omega) m (by omega)
  | @take n r r' z l ts hc hl hp ih =>
    intro acc hr hN hN2
    obtain ⟨K, hK'⟩ := chunk_ev hs hc hr
    have hK : ∀ k, K ≤ k → chunkF k s (pos s r) = some (chAt s (.ok (l, r'))) := hK'
    obtain ⟨K2, hK2⟩ := ih (acc ++ [l]) (ch_suf hc hr) qqD hN2
    refine ⟨K + K2 + 1, fun k hk m hm => ?_⟩
    obtain ⟨m, rfl⟩ : ∃ q, m = q + 1 := ⟨m - 1, by omega⟩
    rw [parseL, if_pos (by omega), hK k (by omega)]
    have hl0 : ¬ l.length = 0 := fun h => hl (List.eq_nil_of_length_eq_zero h)
    show (if l.length = 0 then _ else if acc.length < 5864062014805 then parseL k s N m (pos s r') (acc ++ [l]) else none) = _
    rw [if_neg hl0, if_pos (by omega), hK2 k (by omega) m (by omega)]
    unfold prAt
    simp
  | @takeErr n r r' l x hc hl hp ih =>
    intro acc hr hN hN2
    obtain ⟨K, hK'⟩ := chunk_ev hs hc hr
    have hK : ∀ k, K ≤ k → chunkF k s (pos s r) = some (chAt s (.ok (l, r'))) := hK'
    obtain ⟨K2, hK2⟩ := ih (acc ++ [l]) (ch_suf hc hr) qqD hN2
    refine ⟨K + K2 + 1, fun k hk m hm => ?_⟩
    obtain ⟨m, rfl⟩ : ∃ q, m = q + 1 := ⟨m - 1, by omega⟩
    rw [parseL, if_pos (by omega), hK k (by omega)]
    have hl0 : ¬ l.length = 0 := fun h => hl (List.eq_nil_of_length_eq_zero h)
    show (if l.length = 0 then _ else if acc.length < 5864062014805 then parseL k s N m (pos s r') (acc ++ [l]) else none) = _
    rw [if_neg hl0, if_pos (by omega), hK2 k (by omega) m (by omega)]
    obtain ⟨a, e⟩ := x
    rfl
def parseAns (s : ByteArray) : Except (Nat × Int) (List (List Msg) × List Int) → Int × Int × List (List Msg) × Int × Int
  | .error (n, e) => (0, 0, [], (s.size : Int) - (n : Int), e)
  | .ok (ts, r) => if r = [] then (bt s 9, orB (bt s 12) (bt s 13), ts, 0, 0) else (0, 0, [], pos s r, 160)
theorem parse_long {s : ByteArray} (h : (s.size : Int) > 100000) : Ev (fun k => smf_Parse.f k s) (0, 0, [], 0, 160) := ⟨0, fun k _ => by
  show smf_Parse.f k s = _
  unfold smf_Parse.f
  rw [if_pos h]⟩
theorem parse_ev {s : ByteArray} (hs : s.size ≤ 100000) (h : headGo s 14 0 = none) {p r : List Int} (hp : bytesOf s = p ++ r) (hl : p.length = 14) {o : Except (Nat × Int) (List (List Msg) × List Int)}
    (ho : PrR (bt s 11).toNat r o) : Ev (fun k => smf_Parse.f k s) (parseAns s o) := by
  have hb := bt_range s 11
  have hr : Suf s r := ⟨p, hp⟩
  have hpos : pos s r = 14 := by
    have := congrArg List.length hp
    rw [bytesOf_length, List.length_append] at this
    unfold pos
    omega
  obtain ⟨K, hK⟩ := parseL_ev hs (N := bt s 11) ho [] hr (by simp; omega) (by omega)
  refine ⟨K, fun k hk => ?_⟩
  have h1 := hK k hk k hk
  rw [hpos] at h1
  show smf_Parse.f k s = _
  unfold smf_Parse.f
  rw [if_neg (by omega), h]
  show (parseL k s (bt s 11) k 14 []).bind _ = _
  rw [h1]
  cases o with
  | error x =>
    obtain ⟨n, e⟩ := x
    rfl
  | ok x =>
    obtain ⟨ts, z⟩ := x
    show (if pos s z < (s.size : Int) then some ((0 : Int), (0 : Int), ([] : List (List S39)), pos s z, (160 : Int)) else some (bt s 9, orB (bt s 12) (bt s 13), [] ++ ts, 0, 0)) = some (if z = [] then (bt s 9, orB (bt s 12) (bt s 13), ts, 0, 0) else (0, 0, [], pos s z, 160))
    by_cases c : z = []
    · rw [if_pos c, if_neg (by rw [c, pos_nil]; omega)]
      rfl
    · have : 0 < z.length := List.length_pos_iff.2 c
      rw [if_neg c, if_pos (by unfold pos; omega)]
theorem headGo_skip {s : ByteArray} : ∀ (m n i : Nat), (∀ j, i ≤ j → j < i + m → (j : Int) < s.size ∧ okAt s j = true) → headGo s (m + n) i = headGo s n (i + m)
  | 0, n, i, _ => by rw [Nat.zero_add, Nat.add_zero]
  | m + 1, n, i, h => by
    obtain ⟨h1, h2⟩ := h i (Nat.le_refl _) (by omega)
    rw [show m + 1 + n = (m + n) + 1 by omega, headGo, if_pos h1, if_pos h2, headGo_skip m n (i + 1) (fun j hj hj2 => h j (by omega) (by omega))]
    congr 1
    omega
theorem headGo_all {s : ByteArray} (hs : 14 ≤ s.size) (h : ∀ j, j < 14 → okAt s j = true) : headGo s 14 0 = none := headGo_skip 14 0 0 (fun j _ hj => ⟨by omega, h j (by omega)⟩)
def okL (b : List Int) (i : Nat) : Bool := match i with
  | 0 => rd b 0 == 77
  | 1 => rd b 1 == 84
  | 2 => rd b 2 == 104
  | 3 => rd b 3 == 100
  | 4 => rd b 4 == 0
  | 5 => rd b 5 == 0
  | 6 => rd b 6 == 0
  | 7 => rd b 7 == 6
  | 8 => rd b 8 == 0
  | 9 => decide (rd b 9 ≤ 1)
  | 10 => rd b 10 == 0
  | 11 => okN (rd b 11) (rd b 9)
  | 12 => decide (rd b 12 < 128)
  | _ => decide (rd b 13 > 0) || decide (rd b 12 > 0)
theorem okAt_bytes {s : ByteArray} {b : List Int} (h : bytesOf s = b) (i : Nat) : okAt s i = okL b i := by
  have e : ∀ j : Int, bt s j = rd b j := fun j => by rw [← h, rd_bytesOf]
  unfold okAt okL
  split <;> simp only [e]
def HeadOk (f d : Int) (n : Nat) : Prop := (f = 0 ∨ f = 1) ∧ 1 ≤ d ∧ d ≤ 32767 ∧ 1 ≤ n ∧ n ≤ 16 ∧ (f = 0 → n = 1)
theorem rd_headB (f d : Int) (n : Nat) (t : List Int) : rd (headB f d n ++ t) 8 = f / 256 % 256 ∧ rd (headB f d n ++ t) 9 = f % 256 ∧ rd (headB f d n ++ t) 10 = (n : Int) / 256 % 256 ∧ rd (headB f d n ++ t) 11 = (n : Int) % 256 ∧ rd (headB f d n ++ t) 12 = d / 256 % 256 ∧ rd (headB f d n ++ t) 13 = d % 256 := ⟨rfl, rfl, rfl, rfl, rfl, rfl⟩
theorem okL_head {f d : Int} {n : Nat} (h : HeadOk f d n) (t : List Int) (j : Nat) (hj : j < 14) : okL (headB f d n ++ t) j = true := by
  obtain ⟨h1, h2, h3, h4, h5, h6⟩ := h
  obtain ⟨e8, e9, e10, e11, e12, e13⟩ := rd_headB f d n t
  rcases (show j = 0 ∨ j = 1 ∨ j = 2 ∨ j = 3 ∨ j = 4 ∨ j = 5 ∨ j = 6 ∨ j = 7 ∨ j = 8 ∨ j = 9 ∨ j = 10 ∨ j = 11 ∨ j = 12 ∨ j = 13 by omega) with rfl | rfl | rfl | rfl | rfl | rfl | rfl | rfl | rfl | rfl | rfl | rfl | rfl | rfl
  · rfl
  · rfl
  · rfl
  · rfl
  · rfl
  · rfl
  · rfl
  · rfl
  · show (rd (headB f d n ++ t) 8 == 0) = true
    rw [e8]; exact beq_iff_eq.mpr (by omega)
  · show decide (rd (headB f d n ++ t) 9 ≤ 1) = true
    rw [e9]; exact decide_eq_true (by omega)
  · show (rd (headB f d n ++ t) 10 == 0) = true
    rw [e10]; exact beq_iff_eq.mpr (by omega)
  · show okN (rd (headB f d n ++ t) 11) (rd (headB f d n ++ t) 9) = true
    rw [e11, e9]
    unfold okN
    have a1 : (n : Int) % 256 = n := by omega
    have a2 : f % 256 = f := by omega
    rw [a1, a2]
    by_cases c : (n : Int) = 1
    · simp [c]
    · have hf : f = 1 := h1.resolve_left (fun h1 => by have := h6 h1; omega)
      rw [decide_eq_true hf, decide_eq_true (show (n : Int) > 0 by omega), decide_eq_true (show (n : Int) ≤ 16 by omega)]
      simp
  · show decide (rd (headB f d n ++ t) 12 < 128) = true
    rw [e12]; exact decide_eq_true (by omega)
  · show (decide (rd (headB f d n ++ t) 13 > 0) || decide (rd (headB f d n ++ t) 12 > 0)) = true
    rw [e13, e12]
    by_cases c : d % 256 > 0
    · rw [decide_eq_true c]; rfl
    · rw [decide_eq_true (show d / 256 % 256 > 0 by omega), Bool.or_true]
theorem parse_right {s : ByteArray} (hs : s.size ≤ 100000) {f d : Int} {n : Nat} (h : HeadOk f d n) {r : List Int} (hb : bytesOf s = headB f d n ++ r) {o : Except (Nat × Int) (List (List Msg) × List Int)} (ho : PrR n r o) :
    Ev (fun k => smf_Parse.f k s) (match o with
      | .error (m, e) => (0, 0, [], (s.size : Int) - (m : Int), e)
      | .ok (ts, z) => if z = [] then (f, d, ts, 0, 0) else (0, 0, [], pos s z, 160)) := by
  have h' := h
  obtain ⟨h1, h2, h3, h4, h5, h6⟩ := h'
  obtain ⟨e8, e9, e10, e11, e12, e13⟩ := rd_headB f d n r
  have e : ∀ j : Int, bt s j = rd (headB f d n ++ r) j := fun j => by rw [← hb, rd_bytesOf]
  have hsz : 14 ≤ s.size := by
    have := congrArg List.length hb
    rw [bytesOf_length, List.length_append, headB_len] at this
    omega
  have hh : headGo s 14 0 = none := headGo_all hsz (fun j hj => by rw [okAt_bytes hb]; exact okL_head h r j hj)
  have hn : (bt s 11).toNat = n := by rw [e, e11]; omega
  have := parse_ev hs hh hb (headB_len _ _ _) (by rw [hn]; exact ho)
  cases o with
  | error x => exact this
  | ok x =>
    obtain ⟨ts, z⟩ := x
    have hd : orB (bt s 12) (bt s 13) = d := by rw [orB_eq (by rw [e, e12]; omega) (by rw [e, e12]; omega) (by rw [e, e13]; omega) (by rw [e, e13]; omega), e, e, e12, e13]; omega
    have hf : bt s 9 = f := by rw [e, e9]; omega
    refine Ev.ok this ?_
    unfold parseAns
    rw [hd, hf]
theorem ch_trk {l : List Msg} (hr : Rights l) (he : endsB l = true) (hl : (enc 0 l).length < 4294967296) (rest : List Int) : ChR (trkB l ++ rest) (.ok (l, rest)) := by
  have h : trkB l ++ rest = trkL ++ (four (enc 0 l).length ++ (enc 0 l ++ rest)) := by unfold trkB; simp only [List.append_assoc]
  rw [h]
  exact .track rfl (by rw [val4_four (by omega) (by omega)]) (dec_enc0 hr (.inl rfl)) he
theorem pr_trks : ∀ {ts : List (List Msg)}, (∀ l ∈ ts, Rights l ∧ endsB l = true ∧ (enc 0 l).length < 4294967296) → ∀ rest, PrR ts.length (trksB ts ++ rest) (.ok (ts, rest))
  | [], _, rest => .done rest
  | l :: r, h, rest => by
    obtain ⟨h1, h2, h3⟩ := h l (by simp)
    rw [trksB, List.append_assoc]
    exact .take (ch_trk h1 h2 h3 _) (endsB_ne h2) (pr_trks (fun x hx => h x (by simp [hx])) rest)
end Go.Proofs.YtdmnknhlibaaoaaDoor.Z
namespace Go.Proofs.YtdmnknhlibaaoaaDoor.Z
open Go.RowKit Go.Proofs.YtdmnknhlibaaoaaDoorW.PrintWords Go.Proofs.YtdmnknhlibaaoaaDoorW.PrintLast Go.Proofs.YtdmnknhlibaaoaaDoorW.PrintMore Go.Proofs.YtdmnknhlibaaoaaDoor.M
set_option linter.unusedVariables false
abbrev exB : ByteArray := ⟨#[77, 84, 104, 100, 0, 0, 0, 6, 0, 0, 0, 1, 0, 96, 77, 84, 114, 107, 0, 0, 0, 4, 0, 255, 47, 0]⟩
abbrev exE : S39 := ⟨0, 16, 0, 47, 0, ⟨#[]⟩⟩
theorem examples_f : partitalaw16_examples.f 40 = some true := by
  have h1 : smf_Print.f 40 0 96 [[exE]] = some (exB, 0) := by kernel_rfl
  have h2 : smf_Parse.f 40 exB = some (0, 96, [[exE]], 0, 0) := by kernel_rfl
  have h3 : smf_Parse.f 40 (exB.extract 0 ((mn (exB.size : Int) 20) : Int).toNat) = some (0, 0, [], 20, 152) := by kernel_rfl
  have h4 : smf_Check.f 40 0 96 [] = some (0, 160) := by kernel_rfl
  have h5 : smf_Check.f 40 1 96 [[exE], []] = some (1, 160) := by kernel_rfl
  have h6 : smf_Check.f 40 0 96 [[⟨0, 3, 0, 0, 0, ⟨#[]⟩⟩, exE]] = some (0, 151) := by kernel_rfl
  have h7 : smf_Parse.f 40 ⟨#[77, 84, 104, 120]⟩ = some (0, 0, [], 3, 160) := by kernel_rfl
  have h8 : smf_Same.f 40 0 96 [[exE]] 0 96 [[exE]] = some true := by kernel_rfl
  have he : partitalaw16_End.f 0 = some (0, 16, 0, 47, 0, ⟨#[]⟩) := rfl
  have hs : 0 ≤ mn (exB.size : Int) 20 ∧ mn (exB.size : Int) 20 ≤ (exB.size : Int) := by decide
  unfold partitalaw16_examples.f
  rw [he, Option.bind_some, Option.bind_some]
  dsimp only
  rw [h1, Option.bind_some]
  dsimp only
  rw [h2, Option.bind_some, if_pos hs.1, if_pos hs.2, h3, Option.bind_some, h4, Option.bind_some, Option.bind_some]
  dsimp only
  rw [h5, Option.bind_some, Option.bind_some]
  dsimp only
  rw [h6, Option.bind_some, h7, Option.bind_some]
  dsimp only
  rw [if_pos rfl, if_pos (by rw [Lib.toList_data]), if_pos rfl, if_pos rfl, h8, Option.bind_some, if_pos rfl, if_pos rfl, if_pos rfl, if_pos rfl, if_pos rfl, if_pos rfl, if_pos rfl, if_pos rfl, if_pos rfl]
  rfl
theorem examples_ev : Ev (fun k => partitalaw16_examples.f k) true := Ev.of (fun k => partitalaw16_examples.mono k) examples_f
theorem endM_right {n : Nat} (h : n ≤ 12) : Right (endM (n : Int)) := ⟨by show (0 : Int) ≤ (n : Int); omega, by show (n : Int) ≤ 268435455; omega, by show (⟨#[]⟩ : ByteArray).size ≤ 100000; decide, .inr (.inr ⟨rfl, rfl, rfl, by show (0 : Int) ≤ 47; decide, by show (47 : Int) ≤ 127; decide⟩)⟩
structure FR (f d : Int) (ts : List (List Msg)) : Prop where
  head : HeadOk f d ts.length
  tr : ∀ l ∈ ts, Rights l ∧ endsB l = true
  sm : totT ts ≤ 99000
theorem tot_len2 : ∀ l : List Msg, l.length ≤ tot l
  | [] => Nat.le_refl _
  | m :: r => by
    have := tot_len2 r
    rw [tot, List.length_cons]
    omega
theorem FR.small {f d : Int} {ts : List (List Msg)} (h : FR f d ts) : Small ts := by
  refine ⟨by have := h.head.2.2.2.2.1; omega, fun l hl => ?_⟩
  have h1 := totT_mem hl
  have h2 := tot_len2 l
  have h3 := h.sm
  omega
theorem FR.check {f d : Int} {ts : List (List Msg)} (h : FR f d ts) : checkM f d ts = (0, 0) := by
  obtain ⟨⟨h1, h2, h3, h4, h5, h6⟩, h7, h8⟩ := h
  have hb : headBad f d ts.length = false := by
    unfold headBad
    rw [decide_eq_false (show ¬ f < 0 by omega), decide_eq_false (show ¬ f > 1 by omega), decide_eq_false (show ¬ d < 1 by omega), decide_eq_false (show ¬ d > 32767 by omega), decide_eq_false (show ¬ ts.length < 1 by omega), decide_eq_false (show ¬ ts.length > 16 by omega)]
    by_cases c : f = 0
    · rw [decide_eq_false (show ¬ ts.length > 1 by have := h6 c; omega)]; rfl
    · rw [decide_eq_false c, Bool.and_false]; rfl
  unfold checkM
  rw [hb, if_neg (by decide)]
  exact checkL_ok h7
def bytesF (f d : Int) (ts : List (List Msg)) : ByteArray := strOfNums (fileB f d ts)
theorem FR.len {f d : Int} {ts : List (List Msg)} (h : FR f d ts) : (fileB f d ts).length ≤ 99014 := by
  have := trksB_len ts
  have := h.sm
  unfold fileB
  rw [List.length_append, headB_len]
  omega
theorem FR.size {f d : Int} {ts : List (List Msg)} (h : FR f d ts) : (bytesF f d ts).size = (fileB f d ts).length := str_size _
theorem FR.bytes {f d : Int} {ts : List (List Msg)} (h : FR f d ts) : bytesOf (bytesF f d ts) = fileB f d ts := bytesOf_str (fileB_bytes (fun l hl => (h.tr l hl).1))
theorem FR.print {f d : Int} {ts : List (List Msg)} (h : FR f d ts) : Ev (fun k => smf_Print.f k f d ts) (bytesF f d ts, 0) := by
  refine Ev.ok (print_ev f d ts h.small (by have := h.sm; omega)) ?_
  have hl := h.len
  rw [h.check, if_pos rfl]
  unfold fin
  rw [if_neg (by omega)]
  rfl
theorem FR.trk {f d : Int} {ts : List (List Msg)} (h : FR f d ts) : ∀ l ∈ ts, Rights l ∧ endsB l = true ∧ (enc 0 l).length < 4294967296 := by
  intro l hl
  obtain ⟨h1, h2⟩ := h.tr l hl
  have h3 := totT_mem hl
  have h4 := enc_tot l 0
  have h5 := h.sm
  exact ⟨h1, h2, by omega⟩
theorem FR.parse {f d : Int} {ts : List (List Msg)} (h : FR f d ts) : Ev (fun k => smf_Parse.f k (bytesF f d ts)) (f, d, ts, 0, 0) := by
  have hp := pr_trks h.trk []
  rw [List.append_nil] at hp
  have hl := h.len
  have hs := h.size
  have := parse_right (s := bytesF f d ts) (by omega) h.head h.bytes hp
  exact this
end Go.Proofs.YtdmnknhlibaaoaaDoor.Z
namespace Go.Proofs.YtdmnknhlibaaoaaDoor.Z
open Go.RowKit Go.Proofs.YtdmnknhlibaaoaaDoorW.PrintWords Go.Proofs.YtdmnknhlibaaoaaDoorW.PrintLast Go.Proofs.YtdmnknhlibaaoaaDoorW.PrintMore Go.Proofs.YtdmnknhlibaaoaaDoor.M
set_option linter.unusedVariables false
theorem tmod_range {x n : Int} (hx : 0 ≤ x) (hn : 0 < n) : 0 ≤ Int.tmod x n ∧ Int.tmod x n < n := ⟨Int.tmod_nonneg n hx, Int.tmod_lt_of_pos x hn⟩
theorem pick_f {c n : Int} (hc : -9223372036854775808 ≤ c ∧ c ≤ 9223372036854775807) (hn : 0 < n) : ∃ r, partitalaw16_pick.f c n = some r ∧ 0 ≤ r ∧ r < n := by
  unfold partitalaw16_pick.f
  obtain ⟨h0, h1⟩ := hc
  by_cases c1 : c < 0
  · rw [if_pos c1, if_neg (by omega)]
    have e1 : wrap64 (c + 1) = c + 1 := w64 (by omega) (by omega)
    have e2 : wrap64 (-(c + 1)) = -(c + 1) := w64 (by omega) (by omega)
    rw [e1, e2]
    exact ⟨_, rfl, tmod_range (by omega) hn⟩
  · rw [if_neg c1, if_neg (by omega)]
    exact ⟨_, rfl, tmod_range (by omega) hn⟩
abbrev onM (c n : Int) : S39 := ⟨0, 9, c, n, 64, ⟨#[]⟩⟩
abbrev offM (D c n : Int) : S39 := ⟨D, 9, c, n, 0, ⟨#[]⟩⟩
abbrev eM : S39 := ⟨0, 16, 0, 47, 0, ⟨#[]⟩⟩
theorem on_right {c n : Int} (hc : 0 ≤ c ∧ c ≤ 15) (hn : 0 ≤ n ∧ n ≤ 127) : Right (onM c n) :=
  ⟨by show (0 : Int) ≤ 0; decide, by show (0 : Int) ≤ 268435455; decide, by show (⟨#[]⟩ : ByteArray).size ≤ 100000; decide,
    .inl ⟨by show (8 : Int) ≤ 9; decide, by show (9 : Int) ≤ 14; decide, hc.1, hc.2, hn.1, hn.2, by show (0 : Int) ≤ 64; decide, by show (64 : Int) ≤ 127; decide, fun h => by rcases h with h | h <;> exact absurd h (by show ¬ ((9 : Int) = _); decide), rfl⟩⟩
theorem off_right {D c n : Int} (hD : 0 ≤ D ∧ D ≤ 32767) (hc : 0 ≤ c ∧ c ≤ 15) (hn : 0 ≤ n ∧ n ≤ 127) : Right (offM D c n) :=
  ⟨hD.1, by show D ≤ 268435455; omega, by show (⟨#[]⟩ : ByteArray).size ≤ 100000; decide,
    .inl ⟨by show (8 : Int) ≤ 9; decide, by show (9 : Int) ≤ 14; decide, hc.1, hc.2, hn.1, hn.2, by show (0 : Int) ≤ 0; decide, by show (0 : Int) ≤ 127; decide, fun h => rfl, rfl⟩⟩
theorem e_right : Right eM := endM_right (n := 0) (by omega)
theorem rights_cons {m : Msg} {l : List Msg} (h : Right m) (hs : Rights l) : Rights (m :: l) := fun x hx => by
  rcases List.mem_cons.1 hx with rfl | hx
  · exact h
  · exact hs x hx
theorem rights_nil : Rights [] := fun x hx => by cases hx
section
variable {T : List S39} {x7 : Bool} {a b : Int} {r : Bool}
theorem l1_step {p n i : Int} (hi0 : 0 ≤ i) (hi : i < 14) (hl : T.length = 15) (h1 : (rd_T39 T (i + 1)).f3 = n) (h2 : (rd_T39 T i).f3 = n) (h3 : (rd_T39 T (i + 1)).f4 = 0) (h4 : (rd_T39 T i).f4 = 64) (hn : 0 ≤ n ∧ n ≤ 127)
    (hp : p = -1 ∨ ((0 ≤ p ∧ p ≤ 127) ∧ (n - p = 1 ∨ n - p = 2))) (h : Ev (fun k => partitalaw16_SmfScale.l1 k x7 n (i + 2) a b [T]) r) : Ev (fun k => partitalaw16_SmfScale.l1 k x7 p i a b [T]) r := by
  have hw1 : wrap64 (i + 1) = i + 1 := w64 (by omega) (by omega)
  have hw2 : wrap64 (i + 2) = i + 2 := w64 (by omega) (by omega)
  have hw3 : wrap64 (n - p) = n - p := w64 (by omega) (by omega)
  have hT : rd_L4 [T] 0 = T := rfl
  refine Ev.step (fun k => ?_) h
  show partitalaw16_SmfScale.l1 (k + 1) x7 p i a b [T] = partitalaw16_SmfScale.l1 k x7 n (i + 2) a b [T]
  rw [partitalaw16_SmfScale.l1]
  rw [hT, hw1, hw2, h1, h2, h3, h4, hw3, if_pos hi, if_pos (by simp), if_pos hi0, if_pos (by omega), if_pos (by omega), if_pos (by omega), if_pos rfl, if_pos rfl, if_pos rfl]
  rcases hp with rfl | ⟨hp, hd | hd⟩
  · rw [if_neg (by decide)]
  · rw [if_pos hp.1, if_pos hd]
  · rw [if_pos hp.1, if_neg (by omega), if_pos hd]
theorem l1_end {p n : Int} (hl : T.length = 15) (h0 : (rd_T39 T 0).f3 = n) (hn : 0 ≤ n ∧ n ≤ 127) (hp : 0 ≤ p ∧ p ≤ 127) (hd : n + 12 - p = 1 ∨ n + 12 - p = 2) : Ev (fun k => partitalaw16_SmfScale.l1 k true p 14 a b [T]) true := by
  refine ⟨1, fun k hk => ?_⟩
  obtain ⟨k, rfl⟩ : ∃ m, k = m + 1 := ⟨k - 1, by omega⟩
  have hw1 : wrap64 (n + 12) = n + 12 := w64 (by omega) (by omega)
  have hw2 : wrap64 (n + 12 - p) = n + 12 - p := w64 (by omega) (by omega)
  have hT : rd_L4 [T] 0 = T := rfl
  show partitalaw16_SmfScale.l1 (k + 1) true p 14 a b [T] = some true
  rw [partitalaw16_SmfScale.l1]
  rw [hT, h0, hw1, hw2, if_neg (by decide), if_pos (by simp), if_pos (by omega), if_pos rfl]
  rcases hd with hd | hd
  · rw [if_pos hd]
  · rw [if_neg (by omega), hd]
    rfl
end
theorem l0_step {ps : List S37} {tr : List S39} {i n c D : Int} {x2 : Int} {x7 r : Bool} (hi0 : 0 ≤ i) (hi : i < 7) (hl : ps.length = 7) (ht : tr.length ≤ 100) (hc : wrap64 (Int.tmod x2 16) = c)
    (hp : pitch_Number.f (rd_T37 ps i).f0 (rd_T37 ps i).f1 (rd_T37 ps i).f2 = some (n, 0)) (h : Ev (fun k => partitalaw16_SmfScale.l0 k x2 x7 ps 0 (tr ++ [onM c n, offM D c n]) (i + 1) 0 D) r) :
    Ev (fun k => partitalaw16_SmfScale.l0 k x2 x7 ps 0 tr i 0 D) r := by
  refine Ev.step (fun k => ?_) h
  have hw1 : wrap64 (i + 1) = i + 1 := w64 (by omega) (by omega)
  show partitalaw16_SmfScale.l0 (k + 1) x2 x7 ps 0 tr i 0 D = partitalaw16_SmfScale.l0 k x2 x7 ps 0 (tr ++ [onM c n, offM D c n]) (i + 1) 0 D
  rw [partitalaw16_SmfScale.l0]
  rw [if_pos (by omega), if_pos hi0, hp, Option.bind_some]
  dsimp only
  rw [if_pos rfl, Option.bind_some, hc, if_pos (by simp; omega), hw1]
abbrev trkOf (c D n0 n1 n2 n3 n4 n5 n6 : Int) : List S39 := [onM c n0, offM D c n0, onM c n1, offM D c n1, onM c n2, offM D c n2, onM c n3, offM D c n3, onM c n4, offM D c n4, onM c n5, offM D c n5, onM c n6, offM D c n6, eM]
theorem trk_fr {f : Int} {m : Bool} {p0 p1 p2 p3 p4 p5 p6 : S37} {n0 n1 n2 n3 n4 n5 n6 c D : Int} (S : Scale f m p0 p1 p2 p3 p4 p5 p6 n0 n1 n2 n3 n4 n5 n6) (hc : 0 ≤ c ∧ c ≤ 15) (hD : 1 ≤ D ∧ D ≤ 32767) : FR 0 D [trkOf c D n0 n1 n2 n3 n4 n5 n6] := by
  have hD0 : 0 ≤ D ∧ D ≤ 32767 := ⟨by omega, hD.2⟩
  refine ⟨⟨.inl rfl, hD.1, hD.2, by simp, by simp, fun _ => rfl⟩, fun l hl => ?_, ?_⟩
  rotate_left
  · show tot _ + 8 + 0 ≤ 99000
    simp only [tot]
    exact Nat.le_of_ble_eq_true rfl
  obtain rfl := List.mem_singleton.1 hl
  refine ⟨?_, rfl⟩
  have on := fun {n : Int} (h : 0 ≤ n ∧ n ≤ 127) => on_right hc h
  have off := fun {n : Int} (h : 0 ≤ n ∧ n ≤ 127) => off_right hD0 hc h
  exact rights_cons (on S.g0) (rights_cons (off S.g0) (rights_cons (on S.g1) (rights_cons (off S.g1) (rights_cons (on S.g2) (rights_cons (off S.g2) (rights_cons (on S.g3) (rights_cons (off S.g3) (rights_cons (on S.g4) (rights_cons (off S.g4) (rights_cons (on S.g5) (rights_cons (off S.g5) (rights_cons (on S.g6) (rights_cons (off S.g6) (rights_cons e_right rights_nil))))))))))))))
theorem scale_f {f : Int} {m : Bool} {p0 p1 p2 p3 p4 p5 p6 : S37} {n0 n1 n2 n3 n4 n5 n6 : Int} (S : Scale f m p0 p1 p2 p3 p4 p5 p6 n0 n1 n2 n3 n4 n5 n6) : Ev (fun k => key_Scale.f k f m) ([p0, p1, p2, p3, p4, p5, p6], 0) := Ev.of (fun k => key_Scale.mono _ _ k) S.sc
set_option maxRecDepth 10000 in
theorem smfScale {f : Int} {m : Bool} {d c : Int} (hf : -9223372036854775808 ≤ f ∧ f ≤ 9223372036854775807) (hd : -9223372036854775808 ≤ d ∧ d ≤ 9223372036854775807) (hc : 0 ≤ c ∧ c ≤ 255) : Ev (fun k => partitalaw16_SmfScale.f k f m d c) true := by
  obtain ⟨t, et, t0, t1⟩ := pick_f hf (n := 15) (by decide)
  obtain ⟨q, eq, q0, q1⟩ := pick_f hd (n := 32767) (by decide)
  have hw1 : wrap64 (t - 7) = t - 7 := w64 (by omega) (by omega)
  have hw2 : wrap64 (1 + q) = 1 + q := w64 (by omega) (by omega)
  obtain ⟨p0, p1, p2, p3, p4, p5, p6, n0, n1, n2, n3, n4, n5, n6, S⟩ := scale_ex (f := t - 7) (by omega) (by omega) m
  have hC := tmod_range hc.1 (n := 16) (by decide)
  have hw3 : wrap64 (Int.tmod c 16) = Int.tmod c 16 := w64 (by omega) (by omega)
  obtain ⟨C, hCe⟩ : ∃ C, Int.tmod c 16 = C := ⟨_, rfl⟩
  obtain ⟨D, hDe⟩ : ∃ D, 1 + q = D := ⟨_, rfl⟩
  rw [hCe] at hw3 hC
  have hw2 : wrap64 (1 + q) = D := hw2.trans hDe
  have hFR := trk_fr S (c := C) (D := D) ⟨by omega, by omega⟩ ⟨by omega, by omega⟩
  have hEnc := encode_ok (hFR.tr _ (List.mem_singleton.2 rfl)).1 (by decide : (150 : Nat) ≤ 1000000000)
  have hwc : wrap64 (Int.tmod c 16) = C := by rw [hCe, hw3]
  unfold partitalaw16_SmfScale.f
  refine Ev.bind examples_ev (Ev.yes rfl (Ev.bind (Ev.eq et) ?_))
  rw [hw1]
  refine Ev.bind (scale_f S) (Ev.bind (Ev.eq eq) ?_)
  dsimp only
  rw [hw2]
  refine l0_step (i := 0) (n := n0) (by decide) (by decide) rfl (by decide) hwc S.e0 ?_
  refine l0_step (n := n1) (by decide) (by decide) rfl (by simp) hwc S.e1 ?_
  refine l0_step (n := n2) (by decide) (by decide) rfl (by simp) hwc S.e2 ?_
  refine l0_step (n := n3) (by decide) (by decide) rfl (by simp) hwc S.e3 ?_
  refine l0_step (n := n4) (by decide) (by decide) rfl (by simp) hwc S.e4 ?_
  refine l0_step (n := n5) (by decide) (by decide) rfl (by simp) hwc S.e5 ?_
  refine l0_step (n := n6) (by decide) (by decide) rfl (by simp) hwc S.e6 ?_
  refine Ev.step (fun k => (by rw [partitalaw16_SmfScale.l0, if_neg (by simp)])) ?_
  refine Ev.bind (Ev.eq (show partitalaw16_End.f 0 = some (0, 16, 0, 47, 0, ⟨#[]⟩) from rfl)) ?_
  dsimp only
  refine Ev.yes (by simp) (Ev.bind (Ev.now _) ?_)
  refine Ev.bind hFR.print ?_
  dsimp only
  refine Ev.bind hFR.parse ?_
  dsimp only
  refine Ev.yes (by simp) (Ev.bind hEnc ?_)
  dsimp only
  have hsz : ((bytesF 0 D [trkOf C D n0 n1 n2 n3 n4 n5 n6]).size : Int) = wrap64 (22 + ((strOfNums (enc 0 (trkOf C D n0 n1 n2 n3 n4 n5 n6))).size : Int)) := by
    have h1 := hFR.len
    rw [hFR.size, str_size]
    unfold fileB at h1 ⊢
    rw [List.length_append, headB_len, trksB, trksB, List.append_nil, trkB_len] at h1 ⊢
    rw [w64 (by omega) (by omega)]
    omega
  refine Ev.yes rfl (Ev.yes rfl (Ev.yes rfl (Ev.yes rfl (Ev.yes rfl (Ev.yes rfl (Ev.yes rfl (Ev.yes (by simp) (Ev.yes rfl (Ev.yes hsz ?_)))))))))
  have H := fun {n : Int} (h : 0 ≤ n ∧ n ≤ 127) => h
  refine l1_step (n := n0) (by decide) (by decide) rfl rfl rfl rfl rfl S.g0 (.inl rfl) ?_
  refine l1_step (n := n1) (by decide) (by decide) rfl rfl rfl rfl rfl S.g1 (.inr ⟨S.g0, S.s1⟩) ?_
  refine l1_step (n := n2) (by decide) (by decide) rfl rfl rfl rfl rfl S.g2 (.inr ⟨S.g1, S.s2⟩) ?_
  refine l1_step (n := n3) (by decide) (by decide) rfl rfl rfl rfl rfl S.g3 (.inr ⟨S.g2, S.s3⟩) ?_
  refine l1_step (n := n4) (by decide) (by decide) rfl rfl rfl rfl rfl S.g4 (.inr ⟨S.g3, S.s4⟩) ?_
  refine l1_step (n := n5) (by decide) (by decide) rfl rfl rfl rfl rfl S.g5 (.inr ⟨S.g4, S.s5⟩) ?_
  refine l1_step (n := n6) (by decide) (by decide) rfl rfl rfl rfl rfl S.g6 (.inr ⟨S.g5, S.s6⟩) ?_
  exact l1_end rfl rfl S.g0 S.g6 S.s7
end Go.Proofs.YtdmnknhlibaaoaaDoor.Z
namespace Go.Proofs.YtdmnknhlibaaoaaDoor.R
open Go.RowKit Go.Proofs.YtdmnknhlibaaoaaDoorW.PrintWords Go.ChangeShapes Go.WideShapes Go.Deep
section
variable {H : Type} (enc : TypeId × Value → H) (P : Program) (w : World)
def Rds {α : Type} (t : TypeId) (d : Kd α) (Q : α → Prop) : Prop :=
  ∀ (fuel : Nat) (cs : List Value) (y : DataW H × List MemPlace), DataW.trod enc P w 0 (fun _ => true) true fuel t cs = some y → ∃ x, d.K w x cs ∧ Q x
variable {enc P w}
theorem rds_int {t : TypeId} {k : IntKind} (ht : P.underlying t = some (.int k)) : Rds enc P w t (Kd.int k) (fun n => (Lit.int k n).wf = true) := by
  intro fuel cs y h
  obtain ⟨n, hcs, _, hw⟩ := DataW.trod_int ht h
  exact ⟨n, hcs, hw⟩
theorem rds_bool {t : TypeId} (ht : P.underlying t = some .bool) : Rds enc P w t Kd.bool (fun _ => True) := by
  intro fuel cs y h
  obtain ⟨b, hcs, _⟩ := DataW.trod_bool ht h
  exact ⟨b, hcs, trivial⟩
theorem field_one {fs : Array Field} {n : Nat} {cs : List Value} {xs : List (DataW H × List MemPlace)} (hone : oneCellFields P fs = true) (hx : xs.length = fs.size)
    (hf : ∀ (i : Nat) (f : Field), fs[i]? = some f → DataW.trod enc P w 0 (fun _ => true) true n f.type ((cs.drop f.offset).take (P.cellsOf f.type)) = xs[i]?) (i : Nat) (f : Field) (hi : fs[i]? = some f) :
    ∃ y, DataW.trod enc P w 0 (fun _ => true) true n f.type ((cs.drop i).take 1) = some y := by
  obtain ⟨ho, hk⟩ := hone_of hone i f hi
  have h1 := hf i f hi
  rw [ho, hk] at h1
  have hlt : i < xs.length := by rw [hx]; exact (Array.getElem?_eq_some_iff.1 hi).1
  exact ⟨_, h1.trans (List.getElem?_eq_getElem hlt)⟩
end
end Go.Proofs.YtdmnknhlibaaoaaDoor.R
namespace Go.Proofs.YtdmnknhlibaaoaaDoor.R
open Go.RowKit Go.Proofs.YtdmnknhlibaaoaaDoorW.PrintWords Go.ChangeShapes Go.WideShapes Go.Deep Go.Proofs.YtdmnknhlibaaoaaDoor.M
set_option linter.unusedVariables false
def In64 (x : Int) : Prop := -9223372036854775808 ≤ x ∧ x ≤ 9223372036854775807
theorem in64_wf {x : Int} (h : (Lit.int .i64 x).wf = true) : In64 x := by
  simpa [In64, Lit.wf, IntKind.min, IntKind.max, IntKind.signed, IntKind.bits] using h
structure F23 where
  f0 : Int
  f1 : Bool
def k23 : Kd F23 := Kd.iso (Kd.pair (Kd.int .i64) Kd.bool) (fun x : F23 => (x.f0, x.f1))
theorem k23_open {w : World} {x : F23} {cs : List Value} (h : k23.K w x cs) : cs = [.int .i64 x.f0, .bool x.f1] := by
  obtain ⟨_, _, rfl, rfl, rfl⟩ := h
  rfl
theorem rds_23 {H : Type} {enc : TypeId × Value → H} {w : World} : Rds enc Tryd.prog w 23 k23 (fun x => In64 x.f0) := by
  intro fuel cs y h
  obtain ⟨xs, n, _, _, hlen, hxl, hf⟩ := DataW.trod_struct Tryd.underlying23 h
  have hC : Tryd.prog.cellsOf 23 = 2 := by kernel_rfl
  rw [hC] at hlen
  match cs, hlen with
  | [c0, c1], _ =>
    have hfield := field_one (by kernel_rfl) hxl hf
    obtain ⟨y0, t0⟩ := hfield 0 _ rfl
    obtain ⟨y1, t1⟩ := hfield 1 _ rfl
    obtain ⟨x0, k0, q0⟩ := rds_int Tryd.underlying3 _ _ _ t0
    obtain ⟨x1, k1, _⟩ := rds_bool Tryd.underlying4 _ _ _ t1
    have e0 : [c0] = [Value.int .i64 x0] := k0
    have e1 : [c1] = [Value.bool x1] := k1
    injection e0 with e0 _
    injection e1 with e1 _
    subst e0 e1
    exact ⟨⟨x0, x1⟩, ⟨[_], [_], rfl, rfl, rfl⟩, in64_wf q0⟩
end Go.Proofs.YtdmnknhlibaaoaaDoor.R
