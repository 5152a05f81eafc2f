/- Plain lemmas on bytes: a string and the list of its bytes; numbers that do not wrap. No program. -/
import Derived.Test.YtmeefdaanjaoaaaWWords
import Derived.Test.YtmeefdaanjaoaaaWTab
import Derived.Test.YtmeefdaanjaoaaaWMore
import Derived.Lib.Strings
import Derived.Lib.SmallJoins
import Derived.IntWalk
namespace Go.Proofs.Ytmeefdaanjaoaaa.Z
open Go.RowKit Go.Proofs.YtmeefdaanjaoaaaW.PrintWords

theorem w64 {x : Int} (h0 : -9223372036854775808 ≤ x) (h1 : x ≤ 9223372036854775807) : wrap64 x = x := IntWalk.wrap64_in x ⟨h0, h1⟩

/-- All numbers of a list are bytes. -/
def Bytes (xs : List Int) : Prop := ∀ x ∈ xs, 0 ≤ x ∧ x ≤ 255
theorem Bytes.nil : Bytes [] := by intro x h; cases h
theorem Bytes.cons {x : Int} {xs : List Int} (h0 : 0 ≤ x) (h1 : x ≤ 255) (h : Bytes xs) : Bytes (x :: xs) := by
  intro y hy
  rcases List.mem_cons.1 hy with rfl | hy
  · exact ⟨h0, h1⟩
  · exact h y hy
theorem Bytes.append {xs ys : List Int} (h : Bytes xs) (k : Bytes ys) : Bytes (xs ++ ys) := by
  intro y hy
  rcases List.mem_append.1 hy with hy | hy
  · exact h y hy
  · exact k y hy
theorem Bytes.head {x : Int} {xs : List Int} (h : Bytes (x :: xs)) : 0 ≤ x ∧ x ≤ 255 := h x (by simp)
theorem Bytes.tail {x : Int} {xs : List Int} (h : Bytes (x :: xs)) : Bytes xs := fun y hy => h y (by simp [hy])
theorem Bytes.left {xs ys : List Int} (h : Bytes (xs ++ ys)) : Bytes xs := fun y hy => h y (by simp [hy])
theorem Bytes.right {xs ys : List Int} (h : Bytes (xs ++ ys)) : Bytes ys := fun y hy => h y (by simp [hy])
theorem Bytes.drop {xs : List Int} (h : Bytes xs) (n : Nat) : Bytes (xs.drop n) := fun y hy => h y (List.mem_of_mem_drop hy)
theorem Bytes.take {xs : List Int} (h : Bytes xs) (n : Nat) : Bytes (xs.take n) := fun y hy => h y (List.mem_of_mem_take hy)
theorem bytesOf_bytes (s : ByteArray) : Bytes (bytesOf s) := by
  intro x hx
  unfold bytesOf at hx
  obtain ⟨b, _, rfl⟩ := List.mem_map.1 hx
  have := b.toNat_lt
  omega

theorem toNat_ofNat {x : Int} (h0 : 0 ≤ x) (h1 : x ≤ 255) : ((UInt8.ofNat x.toNat).toNat : Int) = x := by
  rw [UInt8.toNat_ofNat']
  have : x.toNat % 2 ^ 8 = x.toNat := Nat.mod_eq_of_lt (by omega)
  rw [this]
  omega
theorem bytesOf_str {xs : List Int} (h : Bytes xs) : bytesOf (strOfNums xs) = xs := by
  unfold bytesOf strOfNums
  simp only [List.map_map]
  induction xs with
  | nil => rfl
  | cons x xs ih =>
    have hx := h.head
    simp only [List.map_cons, Function.comp]
    rw [toNat_ofNat hx.1 hx.2]
    exact congrArg _ (ih h.tail)
theorem str_size (xs : List Int) : (strOfNums xs).size = xs.length := by
  unfold strOfNums
  simp [ByteArray.size]
theorem str_bytesOf (s : ByteArray) : strOfNums (bytesOf s) = s := by
  obtain ⟨⟨l⟩⟩ := s
  unfold strOfNums bytesOf
  simp only [List.map_map]
  congr 2
  induction l with
  | nil => rfl
  | cons x xs ih =>
    simp only [List.map_cons, Function.comp]
    rw [ih]
    congr 1
    simp
theorem bytesOf_inj {s t : ByteArray} (h : bytesOf s = bytesOf t) : s = t := by rw [← str_bytesOf s, h, str_bytesOf]
theorem toList_eq {s t : ByteArray} : s.toList = t.toList ↔ s = t := by
  constructor
  · intro h
    rw [Lib.toList_data, Lib.toList_data] at h
    exact Go.WideShapes.bytes_inj h
  · intro h; rw [h]
theorem bytesOf_append (s t : ByteArray) : bytesOf (s ++ t) = bytesOf s ++ bytesOf t := by
  unfold bytesOf
  rw [Go.Joins.data_append, List.map_append]
theorem bytesOf_extract (s : ByteArray) (i j : Nat) : bytesOf (s.extract i j) = ((bytesOf s).drop i).take (j - i) := by
  unfold bytesOf
  rw [Lib.extract_data, List.map_take, List.map_drop]
theorem size_eq (s : ByteArray) : s.size = (bytesOf s).length := (bytesOf_length s).symm
theorem bytesOf_nil : bytesOf (⟨#[]⟩ : ByteArray) = [] := rfl
theorem str_append (xs ys : List Int) : strOfNums (xs ++ ys) = strOfNums xs ++ strOfNums ys := by
  apply Go.WideShapes.bytes_inj
  rw [Go.Joins.data_append]
  unfold strOfNums
  simp
/-- What stands at a place. -/
theorem drop_at (s : ByteArray) (i : Int) (h0 : 0 ≤ i) (h1 : i < s.size) : (bytesOf s).drop i.toNat = bt s i :: (bytesOf s).drop (i + 1).toNat := by
  have hl : i.toNat < (bytesOf s).length := by rw [bytesOf_length]; omega
  rw [List.drop_eq_getElem_cons hl]
  have e : (i + 1).toNat = i.toNat + 1 := by omega
  rw [e, ← rd_bytesOf]
  unfold rd
  rw [List.getD_eq_getElem?_getD, List.getElem?_eq_getElem hl]
  rfl
theorem drop_end (s : ByteArray) (i : Int) (h1 : (s.size : Int) ≤ i) : (bytesOf s).drop i.toNat = [] := by
  apply List.drop_eq_nil_of_le
  rw [bytesOf_length]
  omega
theorem drop_len (s : ByteArray) (i : Int) (h0 : 0 ≤ i) (h1 : i ≤ s.size) : (((bytesOf s).drop i.toNat).length : Int) = s.size - i := by
  rw [List.length_drop, bytesOf_length]
  omega
theorem size_nil : (⟨#[]⟩ : ByteArray).size = 0 := rfl
theorem toList_nil (s : ByteArray) : s.toList = ([] : List UInt8) ↔ s.size = 0 := by
  rw [Lib.toList_data]
  constructor
  · intro h
    have e := data_length s
    rw [h] at e
    exact e.symm
  · intro h
    exact List.eq_nil_of_length_eq_zero ((data_length s).trans h)
theorem eq_nil_of_size {s : ByteArray} (h : s.size = 0) : s = (⟨#[]⟩ : ByteArray) := toList_eq.1 (((toList_nil s).2 h).trans ((toList_nil _).2 rfl).symm)
end Go.Proofs.Ytmeefdaanjaoaaa.Z
