/- Functions and contracts printed by a program of this session (wip/tools), and texts by hand: Print, Parse, and the plain answers (part 1). -/
import Derived.Lib.Strings
import Derived.Lib.SmallJoins
import Derived.IntWalk
import Derived.Test.YtdmnknhlibaaoaaProg
import Derived.Below
import Derived.Deep.Draws
import Derived.Deep.AppendLies
import Derived.Maps.AppendAt
import Derived.OwnWalk
import Derived.Laws.BytesArg
import Derived.Laws.MakeOwn
import Derived.Laws.OwnMore
import Derived.Deep.OwnRows
import Derived.Tactics
import Derived.Lib.ConvBytes
import Derived.Laws.Slices
import Derived.WalkKit
import Derived.KernelRfl
import Derived.RowKit3
import Derived.Deep.LoopGhost
import Derived.Deep.QuietTactic
import Derived.BigQuiet
import Derived.WideLaws
import Derived.Deep.DeepCutAuto
import Derived.Deep.CutBlock
import Derived.Deep.RegionHeld3
import Derived.Laws.Rows
import Derived.Lib.AppendStr
import Derived.ArgAppend
import Derived.Laws.IdiomCopy
import Derived.OrdersHeld
import Derived.Laws.BitsLemmas
import Derived.RowKit
import Derived.Tactics2
import Derived.WalkSpells
import Derived.StillTactics
import Derived.OneCell
import Derived.Outline
import Derived.Deep.RegionLaw
import Derived.Lib.Hide
import Derived.Test.YtdmnknhlibaaoaaCW
import Derived.Test.YtdmnknhlibaaoaaC0
namespace Go.Proofs.Ytdmnknhlibaaoaa.Z
open Go.RowKit Go.Proofs.YtdmnknhlibaaoaaW.PrintWords
theorem w64 {x : Int} (h0 : -9223372036854775808 ≤ x) (h1 : x ≤ 9223372036854775807) : wrap64 x = x := IntWalk.wrap64_in x ⟨h0, h1⟩
def Bytes (xs : List Int) : Prop := ∀ x ∈ xs, 0 ≤ x ∧ x ≤ 255
theorem Bytes.nil : Bytes [] := by intro x h; cases h
theorem Bytes.cons {x : Int} {xs : List Int} (h0 : 0 ≤ x) (h1 : x ≤ 255) (h : Bytes xs) : Bytes (x :: xs) := by
  intro y hy
  rcases List.mem_cons.1 hy with rfl | hy
  · exact ⟨h0, h1⟩
  · exact h y hy
theorem Bytes.append {xs ys : List Int} (h : Bytes xs) (k : Bytes ys) : Bytes (xs ++ ys) := by
  intro y hy
  rcases List.mem_append.1 hy with hy | hy
  · exact h y hy
  · exact k y hy
theorem Bytes.head {x : Int} {xs : List Int} (h : Bytes (x :: xs)) : 0 ≤ x ∧ x ≤ 255 := h x (by simp)
theorem Bytes.tail {x : Int} {xs : List Int} (h : Bytes (x :: xs)) : Bytes xs := fun y hy => h y (by simp [hy])
theorem Bytes.left {xs ys : List Int} (h : Bytes (xs ++ ys)) : Bytes xs := fun y hy => h y (by simp [hy])
theorem Bytes.right {xs ys : List Int} (h : Bytes (xs ++ ys)) : Bytes ys := fun y hy => h y (by simp [hy])
theorem Bytes.drop {xs : List Int} (h : Bytes xs) (n : Nat) : Bytes (xs.drop n) := fun y hy => h y (List.mem_of_mem_drop hy)
theorem Bytes.take {xs : List Int} (h : Bytes xs) (n : Nat) : Bytes (xs.take n) := fun y hy => h y (List.mem_of_mem_take hy)
theorem bytesOf_bytes (s : ByteArray) : Bytes (bytesOf s) := by
  intro x hx
  unfold bytesOf at hx
  obtain ⟨b, _, rfl⟩ := List.mem_map.1 hx
  have := b.toNat_lt
  omega
theorem toNat_ofNat {x : Int} (h0 : 0 ≤ x) (h1 : x ≤ 255) : ((UInt8.ofNat x.toNat).toNat : Int) = x := by
  rw [UInt8.toNat_ofNat']
  have : x.toNat % 2 ^ 8 = x.toNat := Nat.mod_eq_of_lt (by omega)
  rw [this]
  omega
theorem bytesOf_str {xs : List Int} (h : Bytes xs) : bytesOf (strOfNums xs) = xs := by
  unfold bytesOf strOfNums
  simp only [List.map_map]
  induction xs with
  | nil => rfl
  | cons x xs ih =>
    have hx := h.head
    simp only [List.map_cons, Function.comp]
    rw [toNat_ofNat hx.1 hx.2]
    exact congrArg _ (ih h.tail)
theorem str_size (xs : List Int) : (strOfNums xs).size = xs.length := by
  unfold strOfNums
  simp [ByteArray.size]
theorem str_bytesOf (s : ByteArray) : strOfNums (bytesOf s) = s := by
  obtain ⟨⟨l⟩⟩ := s
  unfold strOfNums bytesOf
  simp only [List.map_map]
  congr 2
  induction l with
  | nil => rfl
  | cons x xs ih =>
    simp only [List.map_cons, Function.comp]
    rw [ih]
    congr 1
    simp
theorem bytesOf_inj {s t : ByteArray} (h : bytesOf s = bytesOf t) : s = t := by rw [← str_bytesOf s, h, str_bytesOf]
theorem toList_eq {s t : ByteArray} : s.toList = t.toList ↔ s = t := by
  constructor
  · intro h
    rw [Lib.toList_data, Lib.toList_data] at h
    exact Go.WideShapes.bytes_inj h
  · intro h; rw [h]
theorem bytesOf_append (s t : ByteArray) : bytesOf (s ++ t) = bytesOf s ++ bytesOf t := by
  unfold bytesOf
  rw [Go.Joins.data_append, List.map_append]
theorem bytesOf_extract (s : ByteArray) (i j : Nat) : bytesOf (s.extract i j) = ((bytesOf s).drop i).take (j - i) := by
  unfold bytesOf
  rw [Lib.extract_data, List.map_take, List.map_drop]
theorem drop_at (s : ByteArray) (i : Int) (h0 : 0 ≤ i) (h1 : i < s.size) : (bytesOf s).drop i.toNat = bt s i :: (bytesOf s).drop (i + 1).toNat := by
  have hl : i.toNat < (bytesOf s).length := by rw [bytesOf_length]; omega
  rw [List.drop_eq_getElem_cons hl]
  have e : (i + 1).toNat = i.toNat + 1 := by omega
  rw [e, ← rd_bytesOf]
  unfold rd
  rw [List.getD_eq_getElem?_getD, List.getElem?_eq_getElem hl]
  rfl
theorem drop_end (s : ByteArray) (i : Int) (h1 : (s.size : Int) ≤ i) : (bytesOf s).drop i.toNat = [] := by
  apply List.drop_eq_nil_of_le
  rw [bytesOf_length]
  omega
theorem drop_len (s : ByteArray) (i : Int) (h0 : 0 ≤ i) (h1 : i ≤ s.size) : (((bytesOf s).drop i.toNat).length : Int) = s.size - i := by
  rw [List.length_drop, bytesOf_length]
  omega
theorem size_nil : (⟨#[]⟩ : ByteArray).size = 0 := rfl
theorem toList_nil (s : ByteArray) : s.toList = ([] : List UInt8) ↔ s.size = 0 := by
  rw [Lib.toList_data]
  constructor
  · intro h
    have e := data_length s
    rw [h] at e
    exact e.symm
  · intro h
    exact List.eq_nil_of_length_eq_zero ((data_length s).trans h)
theorem eq_nil_of_size {s : ByteArray} (h : s.size = 0) : s = (⟨#[]⟩ : ByteArray) := toList_eq.1 (((toList_nil s).2 h).trans ((toList_nil _).2 rfl).symm)
end Go.Proofs.Ytdmnknhlibaaoaa.Z
namespace Go.Proofs.Ytdmnknhlibaaoaa.M
open Go.RowKit Go.Proofs.YtdmnknhlibaaoaaW.PrintWords Go.Proofs.YtdmnknhlibaaoaaW.PrintLast Go.Proofs.YtdmnknhlibaaoaaW.PrintMore
attribute [local go_sem] max2_int min2_int max_two min_two max_three min_three max_four min_four
set_option linter.unusedVariables false
set_option linter.unusedSimpArgs false
def errW : Option Int → Value
  | none => .nilIface
  | some c => .iface 0 (.int .i64 c)
theorem errW_none : errW none = .nilIface := rfl
theorem errW_some (c : Int) : errW (some c) = .iface 0 (.int .i64 c) := rfl
theorem info5 : (Try.prog.info? 5).map (fun i => (i.zero, i.size, i.bytes)) = some (some (.int .u8 0), 1, 1) := by kernel_rfl
theorem info28 : (Try.prog.info? 28).map (fun i => (i.zero, i.size, i.bytes)) = some (some (.agg #[(.int .i64 0), (.int .i64 0), (.int .i64 0), (.int .i64 0), (.int .i64 0), (.string ⟨#[]⟩)]), 6, 56) := by kernel_rfl
theorem info30 : (Try.prog.info? 30).map (fun i => (i.zero, i.size, i.bytes)) = some (some (.slice none 0 0), 1, 24) := by kernel_rfl
structure S28 where
  f0 : Int
  f1 : Int
  f2 : Int
  f3 : Int
  f4 : Int
  f5 : ByteArray
def z28 : S28 := ⟨(0 : Int), (0 : Int), (0 : Int), (0 : Int), (0 : Int), (⟨#[]⟩ : ByteArray)⟩
def k28 : Kd S28 := Kd.iso (Kd.pair (Kd.int .i64) (Kd.pair (Kd.int .i64) (Kd.pair (Kd.int .i64) (Kd.pair (Kd.int .i64) (Kd.pair (Kd.int .i64) Kd.string))))) (fun x : S28 => (x.f0, x.f1, x.f2, x.f3, x.f4, x.f5))
theorem k28_open {w : World} {x : S28} {cs : List Value} (h : k28.K w x cs) : cs = [.int .i64 x.f0, .int .i64 x.f1, .int .i64 x.f2, .int .i64 x.f3, .int .i64 x.f4, .string x.f5] := by
  obtain ⟨_, _, rfl, rfl, ⟨_, _, rfl, rfl, ⟨_, _, rfl, rfl, ⟨_, _, rfl, rfl, ⟨_, _, rfl, rfl, rfl⟩⟩⟩⟩⟩ := h
  exact rfl
theorem k28_openM {w : World} {base : Nat} {ok : Nat → Prop} {x : S28} {cs : List Value} (h : k28.M w base ok x cs) : cs = [.int .i64 x.f0, .int .i64 x.f1, .int .i64 x.f2, .int .i64 x.f3, .int .i64 x.f4, .string x.f5] := by
  obtain ⟨_, _, rfl, rfl, ⟨_, _, rfl, rfl, ⟨_, _, rfl, rfl, ⟨_, _, rfl, rfl, ⟨_, _, rfl, rfl, rfl⟩⟩⟩⟩⟩ := h
  exact rfl
theorem k28_mk (w : World) (x : S28)  : k28.K w x [.int .i64 x.f0, .int .i64 x.f1, .int .i64 x.f2, .int .i64 x.f3, .int .i64 x.f4, .string x.f5] := ⟨[.int .i64 x.f0], [.int .i64 x.f1, .int .i64 x.f2, .int .i64 x.f3, .int .i64 x.f4, .string x.f5], rfl, rfl, ⟨[.int .i64 x.f1], [.int .i64 x.f2, .int .i64 x.f3, .int .i64 x.f4, .string x.f5], rfl, rfl, ⟨[.int .i64 x.f2], [.int .i64 x.f3, .int .i64 x.f4, .string x.f5], rfl, rfl, ⟨[.int .i64 x.f3], [.int .i64 x.f4, .string x.f5], rfl, rfl, ⟨[.int .i64 x.f4], [.string x.f5], rfl, rfl, rfl⟩⟩⟩⟩⟩
theorem k28_mkM (w : World) (base : Nat) (ok : Nat → Prop) (x : S28)  : k28.M w base ok x [.int .i64 x.f0, .int .i64 x.f1, .int .i64 x.f2, .int .i64 x.f3, .int .i64 x.f4, .string x.f5] := ⟨[.int .i64 x.f0], [.int .i64 x.f1, .int .i64 x.f2, .int .i64 x.f3, .int .i64 x.f4, .string x.f5], rfl, rfl, ⟨[.int .i64 x.f1], [.int .i64 x.f2, .int .i64 x.f3, .int .i64 x.f4, .string x.f5], rfl, rfl, ⟨[.int .i64 x.f2], [.int .i64 x.f3, .int .i64 x.f4, .string x.f5], rfl, rfl, ⟨[.int .i64 x.f3], [.int .i64 x.f4, .string x.f5], rfl, rfl, ⟨[.int .i64 x.f4], [.string x.f5], rfl, rfl, rfl⟩⟩⟩⟩⟩
def rd_T28 (xs : List S28) (i : Int) : S28 := xs.getD i.toNat z28
theorem at_T28 {w : World} {A : Option Addr} {n : Nat} {xs : List S28} (h : Kd.C k28 w A n xs) (i : Int) (h0 : 0 ≤ i) (h1 : i < n) : ∃ ad , A = some ad ∧ w.cell? (ad.add (i.toNat * 6)) = some (.int .i64 (rd_T28 xs i).f0) ∧ w.cell? ⟨(ad.add (i.toNat * 6)).block, (ad.add (i.toNat * 6)).off + 1, none⟩ = some (.int .i64 (rd_T28 xs i).f1) ∧ w.cell? ⟨(ad.add (i.toNat * 6)).block, (ad.add (i.toNat * 6)).off + 2, none⟩ = some (.int .i64 (rd_T28 xs i).f2) ∧ w.cell? ⟨(ad.add (i.toNat * 6)).block, (ad.add (i.toNat * 6)).off + 3, none⟩ = some (.int .i64 (rd_T28 xs i).f3) ∧ w.cell? ⟨(ad.add (i.toNat * 6)).block, (ad.add (i.toNat * 6)).off + 4, none⟩ = some (.int .i64 (rd_T28 xs i).f4) ∧ w.cell? ⟨(ad.add (i.toNat * 6)).block, (ad.add (i.toNat * 6)).off + 5, none⟩ = some (.string (rd_T28 xs i).f5) := by
  obtain ⟨ad, c, e, _, hK, hc0⟩ := Kd.C_get h z28 i h0 h1
  have hc : ∀ j u, c[j]? = some u → w.cell? (ad.add (i.toNat * 6 + j)) = some u := hc0
  obtain rfl := k28_open hK
  exact ⟨ad, e, hc 0 _ rfl, by rw [← add_field _ _ 1 (by omega)]; exact hc 1 _ rfl, by rw [← add_field _ _ 2 (by omega)]; exact hc 2 _ rfl, by rw [← add_field _ _ 3 (by omega)]; exact hc 3 _ rfl, by rw [← add_field _ _ 4 (by omega)]; exact hc 4 _ rfl, by rw [← add_field _ _ 5 (by omega)]; exact hc 5 _ rfl⟩
def rd_L3 (xs : List (List S28)) (i : Int) : (List S28) := xs.getD i.toNat ([] : List S28)
theorem at_L3 {w : World} {A : Option Addr} {n : Nat} {xs : List (List S28)} (h : Kd.C (Kd.slice 28 k28) w A n xs) (i : Int) (h0 : 0 ≤ i) (h1 : i < n) : ∃ ad A0 c0, A = some ad ∧ w.cell? (ad.add i.toNat) = some (.slice A0 (rd_L3 xs i).length c0) ∧ (rd_L3 xs i).length ≤ c0 ∧ k28.C w A0 (rd_L3 xs i).length (rd_L3 xs i) := by
  obtain ⟨ad, c, e, _, hK, hc0⟩ := Kd.C_get h ([] : List S28) i h0 h1
  have hc : ∀ j u, c[j]? = some u → w.cell? (ad.add (i.toNat * 1 + j)) = some u := hc0
  obtain ⟨A0, c0, rfl, l0, g0⟩ := hK
  exact ⟨ad, A0, c0, e, by have hq := hc 0 _ rfl; rwa [Nat.mul_one, Nat.add_zero] at hq, l0, g0⟩
theorem goesV_ {P : Program} {ops : Array Oper} {Q : Exit → Act → World → Prop} {rest : List Oper} {oi : Oper} {a : Act} {w : World} (N : Option Tmp) (hd : oi.dst = N) (hg : oi.guard = none) {f : FuncId} {fn : Func} {t : Tmp} {xs_ : Array Operand} {ts : Array TypeId} (hf : P.funcs[f]? = some fn) (hname : (fn.name == "runtime.NumGoroutine") = false) (hb : fn.body.isSome = true) (args : Array Value)
    (hop : oi.op = .call { callee := .value (.tmp t), args := xs_, argTypes := ts }) (hargs : xs_.map a.eval = args)
    (h : Calls P f args w fun e w' => ∃ v, e = .returned v ∧ wpList P ops Q rest (a.put N v) w') (hfun : a.eval (.tmp t) = .func (.func f) #[] #[] := by rfl) : wpList P ops Q (oi :: rest) a w := by
  refine wpList_plain hg fun K hK => ?_
  have he := enters_ hf hname hb args w
  have hrun : (execOp a.eval oi).run P w = .ok (.enter f args) w := by
    unfold execOp
    simp [hop, hfun, resolve, Deferred.ofValue, invoke, hargs, he]
  unfold Oper.wp
  rw [hrun, Oper.upon_enter]
  refine h.mono fun e w'' hh => ?_
  obtain ⟨v, rfl, hk⟩ := hh
  subst hd
  exact hK _ _ hk
end Go.Proofs.Ytdmnknhlibaaoaa.M
namespace Go.Proofs.Ytdmnknhlibaaoaa.Z
open Go.RowKit Go.Proofs.YtdmnknhlibaaoaaW.PrintWords Go.Proofs.Ytdmnknhlibaaoaa.M
set_option linter.unusedVariables false
abbrev Msg := S28
def part (b n : Int) : List Int := if b ≤ n then [n / b % 128 + 128] else []
def num (n : Int) : List Int := part 2097152 n ++ part 16384 n ++ part 128 n ++ [n % 128]
def vlq : Nat → Int → List Int → Except Int (Int × List Int)
  | 0, _, _ => .error 150
  | _ + 1, _, [] => .error 152
  | i + 1, n, c :: r => if c < 128 then .ok (n * 128 + c, r) else vlq i (n * 128 + (c - 128)) r
theorem vlq_nil (i : Nat) (n : Int) : vlq (i + 1) n [] = .error 152 := rfl
theorem vlq_lo {i : Nat} {n c : Int} {r : List Int} (h : c < 128) : vlq (i + 1) n (c :: r) = .ok (n * 128 + c, r) := by rw [vlq, if_pos h]
theorem vlq_hi {i : Nat} {n c : Int} {r : List Int} (h : ¬ c < 128) : vlq (i + 1) n (c :: r) = vlq i (n * 128 + (c - 128)) r := by rw [vlq, if_neg h]
theorem num1 {n : Int} (h0 : 0 ≤ n) (h : n < 128) : num n = [n] := by
  unfold num part
  rw [if_neg (by omega), if_neg (by omega), if_neg (by omega)]
  simp only [List.nil_append]
  congr 1; omega
theorem num2 {n : Int} (h0 : 128 ≤ n) (h : n < 16384) : num n = [n / 128 + 128, n % 128] := by
  unfold num part
  rw [if_neg (by omega), if_neg (by omega), if_pos (by omega)]
  simp only [List.nil_append, List.cons_append]
  congr 1; omega
theorem num3 {n : Int} (h0 : 16384 ≤ n) (h : n < 2097152) : num n = [n / 16384 + 128, n / 128 % 128 + 128, n % 128] := by
  unfold num part
  rw [if_neg (by omega), if_pos (by omega), if_pos (by omega)]
  simp only [List.nil_append, List.cons_append]
  congr 1; omega
theorem num4 {n : Int} (h0 : 2097152 ≤ n) (h : n ≤ 268435455) : num n = [n / 2097152 + 128, n / 16384 % 128 + 128, n / 128 % 128 + 128, n % 128] := by
  unfold num part
  rw [if_pos (by omega), if_pos (by omega), if_pos (by omega)]
  simp only [List.nil_append, List.cons_append]
  congr 1; omega
theorem num_len (n : Int) : 1 ≤ (num n).length ∧ (num n).length ≤ 4 := by
  unfold num part
  split <;> split <;> split <;> simp
theorem num_bytes {n : Int} (h0 : 0 ≤ n) : Bytes (num n) := by
  unfold num part
  have h1 := Int.emod_nonneg (n / 2097152) (b := 128) (by decide)
  have h2 := Int.emod_lt_of_pos (n / 2097152) (b := 128) (by decide)
  have h3 := Int.emod_nonneg (n / 16384) (b := 128) (by decide)
  have h4 := Int.emod_lt_of_pos (n / 16384) (b := 128) (by decide)
  have h5 := Int.emod_nonneg (n / 128) (b := 128) (by decide)
  have h6 := Int.emod_lt_of_pos (n / 128) (b := 128) (by decide)
  have h7 := Int.emod_nonneg n (b := 128) (by decide)
  have h8 := Int.emod_lt_of_pos n (b := 128) (by decide)
  refine Bytes.append (Bytes.append (Bytes.append ?_ ?_) ?_) (Bytes.cons (by omega) (by omega) Bytes.nil)
  all_goals
    split
    · exact Bytes.cons (by omega) (by omega) Bytes.nil
    · exact Bytes.nil
theorem vlq_num {n : Int} (h0 : 0 ≤ n) (h1 : n ≤ 268435455) (r : List Int) : vlq 4 0 (num n ++ r) = .ok (n, r) := by
  by_cases a : n < 128
  · rw [num1 h0 a, List.singleton_append, vlq_lo a]
    congr 2; omega
  · by_cases b : n < 16384
    · rw [num2 (by omega) b]
      simp only [List.cons_append, List.nil_append]
      rw [vlq_hi (by omega), vlq_lo (by omega)]
      congr 2; omega
    · by_cases c : n < 2097152
      · rw [num3 (by omega) c]
        simp only [List.cons_append, List.nil_append]
        rw [vlq_hi (by omega), vlq_hi (by omega), vlq_lo (by omega)]
        congr 2; omega
      · rw [num4 (by omega) h1]
        simp only [List.cons_append, List.nil_append]
        rw [vlq_hi (by omega), vlq_hi (by omega), vlq_hi (by omega), vlq_lo (by omega)]
        congr 2; omega
theorem vlq_ok : ∀ {i : Nat} {n m : Int} {r r' : List Int}, Bytes r → vlq i n r = .ok (m, r') → ∃ p : List Int, r = p ++ r' ∧ 1 ≤ p.length ∧ p.length ≤ i ∧ n * 128 ^ p.length ≤ m ∧ m < (n + 1) * 128 ^ p.length
  | 0, _, _, _, _, _, h => by cases h
  | i + 1, n, m, [], r', _, h => by cases h
  | i + 1, n, m, c :: r, r', hb, h => by
    have hc := hb.head
    by_cases hlt : c < 128
    · rw [vlq_lo hlt] at h
      injection h with h
      injection h with h1 h2
      subst h1 h2
      exact ⟨[c], rfl, by simp, by simp, by simp; omega, by simp; omega⟩
    · rw [vlq_hi hlt] at h
      obtain ⟨p, rfl, hp1, hp2, hlo, hhi⟩ := vlq_ok hb.tail h
      refine ⟨c :: p, rfl, by simp, by simp; omega, ?_, ?_⟩
      · rw [List.length_cons, Int.pow_succ]
        have hpos : (0 : Int) < 128 ^ p.length := Int.pow_pos (by decide)
        have := Int.mul_le_mul_of_nonneg_right (show n * 128 ≤ n * 128 + (c - 128) by omega) (Int.le_of_lt hpos)
        have e : n * (128 ^ p.length * 128) = n * 128 * 128 ^ p.length := by rw [Int.mul_comm (128 ^ p.length) 128, Int.mul_assoc]
        omega
      · rw [List.length_cons, Int.pow_succ]
        have hpos : (0 : Int) < 128 ^ p.length := Int.pow_pos (by decide)
        have := Int.mul_le_mul_of_nonneg_right (show n * 128 + (c - 128) + 1 ≤ (n + 1) * 128 by omega) (Int.le_of_lt hpos)
        have e : (n + 1) * (128 ^ p.length * 128) = (n + 1) * 128 * 128 ^ p.length := by rw [Int.mul_comm (128 ^ p.length) 128, Int.mul_assoc]
        omega
theorem vlq4_ok {m : Int} {r r' : List Int} (hb : Bytes r) (h : vlq 4 0 r = .ok (m, r')) : 0 ≤ m ∧ m ≤ 268435455 ∧ ∃ p : List Int, r = p ++ r' ∧ (num m).length ≤ p.length := by
  obtain ⟨p, rfl, h1, h2, h3, h4⟩ := vlq_ok hb h
  rw [Int.zero_mul] at h3
  rw [Int.zero_add, Int.one_mul] at h4
  have hl : p.length = 1 ∨ p.length = 2 ∨ p.length = 3 ∨ p.length = 4 := by omega
  rcases hl with e | e | e | e <;> rw [e] at h4 <;> simp at h4 <;> refine ⟨h3, by omega, p, rfl, ?_⟩
  · rw [num1 h3 (by omega), e]; simp
  · by_cases a : m < 128
    · rw [num1 h3 a, e]; simp
    · rw [num2 (by omega) (by omega), e]; simp
  · by_cases a : m < 128
    · rw [num1 h3 a, e]; simp
    · by_cases b : m < 16384
      · rw [num2 (by omega) b, e]; simp
      · rw [num3 (by omega) (by omega), e]; simp
  · rw [e]; exact (num_len m).2
theorem vlq_e : ∀ {i : Nat} {n e : Int} {r : List Int}, vlq i n r = .error e → e = 150 ∨ e = 152
  | 0, _, _, _, h => by cases h; exact .inl rfl
  | i + 1, n, e, [], h => by cases h; exact .inr rfl
  | i + 1, n, e, c :: r, h => by
    by_cases hlt : c < 128
    · rw [vlq_lo hlt] at h; cases h
    · rw [vlq_hi hlt] at h
      exact vlq_e h
def low : List Int → Except Int (Int × List Int)
  | [] => .error 152
  | c :: r => if c ≥ 128 then .error 151 else .ok (c, r)
def dat (r : List Int) : Except Int (List Int × List Int) :=
  match vlq 4 0 r with
  | .error e => .error e
  | .ok (n, r1) => if n > 100000 then .error 151 else if n > r1.length then .error 152 else .ok (r1.take n.toNat, r1.drop n.toNat)
def body (d c : Int) (r : List Int) : Except Int (Msg × Int × List Int) :=
  if c = 255 then
    match low r with
    | .error e => .error e
    | .ok (a, r1) => match dat r1 with
      | .error e => .error e
      | .ok (bs, r2) => .ok (⟨d, 16, 0, a, 0, strOfNums bs⟩, 0, r2)
  else if c ≥ 240 then
    match dat r with
    | .error e => .error e
    | .ok (bs, r2) => .ok (⟨d, 15, 0, c, 0, strOfNums bs⟩, 0, r2)
  else
    match low r with
    | .error e => .error e
    | .ok (a, r1) => if c / 16 = 12 ∨ c / 16 = 13 then .ok (⟨d, c / 16, c % 16, a, 0, ⟨#[]⟩⟩, c, r1) else
      match low r1 with
      | .error e => .error e
      | .ok (b, r2) => .ok (⟨d, c / 16, c % 16, a, b, ⟨#[]⟩⟩, c, r2)
def msg (last : Int) (r : List Int) : Except Int (Msg × Int × List Int) :=
  match vlq 4 0 r with
  | .error e => .error e
  | .ok (_, []) => .error 152
  | .ok (d, c :: r1) => if c < 128 then (if last = 0 then .error 151 else body d last (c :: r1)) else if c > 240 ∧ c ≠ 247 ∧ c ≠ 255 then .error 151 else body d c r1
inductive Dec : Int → List Int → List Msg → Prop
  | nil (l : Int) : Dec l [] []
  | cons {l l' : Int} {r r' : List Int} {m : Msg} {ms : List Msg} : msg l r = .ok (m, l', r') → Dec l' r' ms → Dec l r (m :: ms)
inductive Bad : Int → List Int → Int → Nat → Prop
  | here {l e : Int} {r : List Int} : r ≠ [] → msg l r = .error e → Bad l r e r.length
  | later {l l' e : Int} {r r' : List Int} {m : Msg} {n : Nat} : msg l r = .ok (m, l', r') → Bad l' r' e n → Bad l r e n
def Right (m : Msg) : Prop := 0 ≤ m.f0 ∧ m.f0 ≤ 268435455 ∧ m.f5.size ≤ 100000 ∧
  ((8 ≤ m.f1 ∧ m.f1 ≤ 14 ∧ 0 ≤ m.f2 ∧ m.f2 ≤ 15 ∧ 0 ≤ m.f3 ∧ m.f3 ≤ 127 ∧ 0 ≤ m.f4 ∧ m.f4 ≤ 127 ∧ (m.f1 = 12 ∨ m.f1 = 13 → m.f4 = 0) ∧ m.f5.size = 0) ∨
   (m.f1 = 15 ∧ m.f2 = 0 ∧ m.f4 = 0 ∧ (m.f3 = 240 ∨ m.f3 = 247)) ∨ (m.f1 = 16 ∧ m.f2 = 0 ∧ m.f4 = 0 ∧ 0 ≤ m.f3 ∧ m.f3 ≤ 127))
instance (m : Msg) : Decidable (Right m) := by unfold Right; infer_instance
def encOne (l : Int) (m : Msg) : List Int :=
  if m.f1 = 16 then num m.f0 ++ (255 :: m.f3 :: (num m.f5.size ++ bytesOf m.f5))
  else if m.f1 = 15 then num m.f0 ++ (m.f3 :: (num m.f5.size ++ bytesOf m.f5))
  else num m.f0 ++ ((if 16 * m.f1 + m.f2 = l then [] else [16 * m.f1 + m.f2]) ++ (m.f3 :: (if m.f1 = 12 ∨ m.f1 = 13 then [] else [m.f4])))
def nextL (m : Msg) : Int := if m.f1 = 16 then 0 else if m.f1 = 15 then 0 else 16 * m.f1 + m.f2
def enc : Int → List Msg → List Int
  | _, [] => []
  | l, m :: ms => encOne l m ++ enc (nextL m) ms
end Go.Proofs.Ytdmnknhlibaaoaa.Z
namespace Go.Proofs.Ytdmnknhlibaaoaa.Z
open Go.RowKit Go.Proofs.YtdmnknhlibaaoaaW.PrintWords Go.Proofs.Ytdmnknhlibaaoaa.M
set_option linter.unusedVariables false
theorem low_lo {c : Int} {r : List Int} (h : c < 128) : low (c :: r) = .ok (c, r) := by rw [low, if_neg (by omega)]
theorem low_ok {a : Int} {r r' : List Int} (h : low r = .ok (a, r')) : r = a :: r' ∧ a < 128 := by
  cases r with
  | nil => cases h
  | cons c r =>
    by_cases hc : c ≥ 128
    · rw [low, if_pos hc] at h; cases h
    · rw [low, if_neg hc] at h
      injection h with h
      injection h with h1 h2
      subst h1 h2
      exact ⟨rfl, by omega⟩
theorem dat_num {n : Int} {bs r : List Int} (h1 : n ≤ 100000) (hn : n = bs.length) : dat (num n ++ (bs ++ r)) = .ok (bs, r) := by
  unfold dat
  rw [vlq_num (by omega) (by omega)]
  dsimp only
  rw [if_neg (by omega), if_neg (by rw [List.length_append]; omega)]
  have e : n.toNat = bs.length := by omega
  rw [e, List.take_left, List.drop_left]
theorem dat_ok {bs r r' : List Int} (hb : Bytes r) (h : dat r = .ok (bs, r')) : (bs.length : Int) ≤ 100000 ∧ Bytes bs ∧ ∃ p, r = p ++ (bs ++ r') ∧ (num bs.length).length ≤ p.length := by
  unfold dat at h
  cases hv : vlq 4 0 r with
  | error e => rw [hv] at h; cases h
  | ok x =>
    obtain ⟨n, r1⟩ := x
    rw [hv] at h
    dsimp only at h
    obtain ⟨h0, _, p, hp, hl⟩ := vlq4_ok hb hv
    by_cases c1 : n > 100000
    · rw [if_pos c1] at h; cases h
    · rw [if_neg c1] at h
      by_cases c2 : n > r1.length
      · rw [if_pos c2] at h; cases h
      · rw [if_neg c2] at h
        injection h with h
        injection h with e1 e2
        subst e1 e2
        have hb1 : Bytes r1 := by rw [hp] at hb; exact hb.right
        have hlen : ((r1.take n.toNat).length : Int) = n := by rw [List.length_take]; omega
        refine ⟨by omega, hb1.take _, p, by rw [List.take_append_drop]; exact hp, by rw [hlen]; exact hl⟩
theorem body_255 (d : Int) (r : List Int) : body d 255 r = (match low r with
    | .error e => .error e
    | .ok (a, r1) => match dat r1 with
      | .error e => .error e
      | .ok (bs, r2) => .ok (⟨d, 16, 0, a, 0, strOfNums bs⟩, 0, r2)) := by (unfold body; rw [if_pos rfl]) <;> rfl
theorem body_sys {c : Int} (h : c ≠ 255) (h2 : c ≥ 240) (d : Int) (r : List Int) : body d c r = (match dat r with
    | .error e => .error e
    | .ok (bs, r2) => .ok (⟨d, 15, 0, c, 0, strOfNums bs⟩, 0, r2)) := by (unfold body; rw [if_neg h, if_pos h2]) <;> rfl
theorem body_key {c : Int} (h2 : c < 240) (d : Int) (r : List Int) : body d c r = (match low r with
    | .error e => .error e
    | .ok (a, r1) => if c / 16 = 12 ∨ c / 16 = 13 then .ok (⟨d, c / 16, c % 16, a, 0, ⟨#[]⟩⟩, c, r1) else
      match low r1 with
      | .error e => .error e
      | .ok (b, r2) => .ok (⟨d, c / 16, c % 16, a, b, ⟨#[]⟩⟩, c, r2)) := by (unfold body; rw [if_neg (by omega), if_neg (by omega)]) <;> rfl
theorem msg_at {l d c : Int} {r r1 : List Int} (h : vlq 4 0 r = .ok (d, c :: r1)) : msg l r = (if c < 128 then (if l = 0 then .error 151 else body d l (c :: r1)) else if c > 240 ∧ c ≠ 247 ∧ c ≠ 255 then .error 151 else body d c r1) := by
  unfold msg; rw [h]
theorem msg_enc {m : Msg} (hm : Right m) {l l' : Int} (hl : l' = l ∨ l' = 0) (r : List Int) : msg l (encOne l' m ++ r) = .ok (m, nextL m, r) := by
  obtain ⟨f0, f1, f2, f3, f4, f5⟩ := m
  obtain ⟨h0, h1, h2, h⟩ := hm
  dsimp only at h0 h1 h2 h
  unfold encOne nextL
  dsimp only
  rcases h with ⟨k1, k2, k3, k4, k5, k6, k7, k8, k9, k10⟩ | ⟨rfl, rfl, rfl, k⟩ | ⟨rfl, rfl, rfl, k1, k2⟩
  · have hf5 := eq_nil_of_size k10
    subst hf5
    rw [if_neg (show ¬ f1 = 16 by omega), if_neg (show ¬ f1 = 15 by omega), if_neg (show ¬ f1 = 16 by omega), if_neg (show ¬ f1 = 15 by omega)]
    have hk : ∀ t, body f0 (16 * f1 + f2) ((f3 :: (if f1 = 12 ∨ f1 = 13 then [] else [f4])) ++ t) = .ok (⟨f0, f1, f2, f3, f4, ⟨#[]⟩⟩, 16 * f1 + f2, t) := by
      intro t
      have e1 : (16 * f1 + f2) / 16 = f1 := by omega
      have e2 : (16 * f1 + f2) % 16 = f2 := by omega
      rw [body_key (by omega), List.cons_append, low_lo (by omega)]
      dsimp only
      rw [e1, e2]
      by_cases c : f1 = 12 ∨ f1 = 13
      · rw [if_pos c, if_pos c]
        have := k9 c
        subst this
        rfl
      · rw [if_neg c, if_neg c, List.singleton_append, low_lo (by omega)]
    by_cases c : 16 * f1 + f2 = l'
    · have hl' : l' = l := by omega
      rw [if_pos c, List.nil_append, List.append_assoc]
      have hv := vlq_num h0 h1 ((f3 :: (if f1 = 12 ∨ f1 = 13 then [] else [f4])) ++ r)
      rw [List.cons_append] at hv
      rw [List.cons_append, msg_at hv, if_pos (by omega), if_neg (by omega), ← List.cons_append, ← hl', ← c]
      exact hk r
    · rw [if_neg c, List.append_assoc, List.append_assoc]
      rw [List.singleton_append]
      rw [msg_at (vlq_num h0 h1 _), if_neg (by omega), if_neg (by omega)]
      exact hk r
  · rw [if_neg (show ¬ (15 : Int) = 16 by decide), if_pos rfl, if_neg (show ¬ (15 : Int) = 16 by decide), if_pos rfl]
    rw [List.append_assoc, List.cons_append, List.append_assoc]
    rw [msg_at (vlq_num h0 h1 _), if_neg (by omega), if_neg (by omega), body_sys (by omega) (by omega)]
    rw [dat_num (by omega) (by rw [bytesOf_length])]
    dsimp only
    rw [str_bytesOf]
  · rw [if_pos rfl, if_pos rfl]
    rw [List.append_assoc, List.cons_append, List.cons_append, List.append_assoc]
    rw [msg_at (vlq_num h0 h1 _), if_neg (by omega), if_neg (by omega), body_255, low_lo (by omega)]
    dsimp only
    rw [dat_num (by omega) (by rw [bytesOf_length])]
    dsimp only
    rw [str_bytesOf]
def LastOk (l : Int) : Prop := l = 0 ∨ 128 ≤ l ∧ l < 240
theorem nextL_ok {m : Msg} (hm : Right m) : LastOk (nextL m) := by
  obtain ⟨f0, f1, f2, f3, f4, f5⟩ := m
  obtain ⟨h0, h1, h2, h⟩ := hm
  unfold nextL LastOk
  dsimp only at h ⊢
  split
  · exact .inl rfl
  · split
    · exact .inl rfl
    · omega
theorem body_key_ok {d c : Int} {r r' : List Int} {m : Msg} {l' : Int} (hd0 : 0 ≤ d) (hd1 : d ≤ 268435455) (hb : Bytes r) (h1 : 128 ≤ c) (h2 : c < 240) (h : body d c r = .ok (m, l', r')) :
    Right m ∧ l' = nextL m ∧ m.f0 = d ∧ m.f1 ≠ 16 ∧ m.f1 ≠ 15 ∧ 16 * m.f1 + m.f2 = c ∧ ∃ p, r = p ++ r' ∧ p = m.f3 :: (if m.f1 = 12 ∨ m.f1 = 13 then [] else [m.f4]) := by
  rw [body_key h2] at h
  cases hl : low r with
  | error e => rw [hl] at h; cases h
  | ok x =>
    obtain ⟨a, r1⟩ := x
    rw [hl] at h
    dsimp only at h
    obtain ⟨rfl, ha⟩ := low_ok hl
    have ha0 := hb.head
    by_cases c3 : c / 16 = 12 ∨ c / 16 = 13
    · rw [if_pos c3] at h
      injection h with h; injection h with e1 h; injection h with e2 e3; subst e1 e2 e3
      refine ⟨⟨hd0, hd1, by show (⟨#[]⟩ : ByteArray).size ≤ 100000; rw [size_nil]; omega, .inl ?_⟩, ?_, rfl, ?_, ?_, ?_, [a], rfl, ?_⟩
      · exact ⟨qq15, qq15, qq15, qq15, qq15, qq15, qq15, qq15, fun _ => rfl, rfl⟩
      · unfold nextL; dsimp only; rw [if_neg (by omega), if_neg (by omega)]; omega
      · dsimp only; omega
      · dsimp only; omega
      · dsimp only; omega
      · dsimp only; rw [if_pos c3]
    · rw [if_neg c3] at h
      cases hl2 : low r1 with
      | error e => rw [hl2] at h; cases h
      | ok y =>
        obtain ⟨b, r2⟩ := y
        rw [hl2] at h
        dsimp only at h
        obtain ⟨rfl, hb2⟩ := low_ok hl2
        have hb0 := hb.tail.head
        injection h with h; injection h with e1 h; injection h with e2 e3; subst e1 e2 e3
        refine ⟨⟨hd0, hd1, by show (⟨#[]⟩ : ByteArray).size ≤ 100000; rw [size_nil]; omega, .inl ?_⟩, ?_, rfl, ?_, ?_, ?_, [a, b], rfl, ?_⟩
        · exact ⟨qq15, qq15, qq15, qq15, qq15, qq15, qq15, qq15, fun hh => absurd hh c3, rfl⟩
        · unfold nextL; dsimp only; rw [if_neg (by omega), if_neg (by omega)]; omega
        · dsimp only; omega
        · dsimp only; omega
        · dsimp only; omega
        · dsimp only; rw [if_neg c3]
theorem msg_ok {l l' : Int} {r r' : List Int} {m : Msg} (hl : LastOk l) (hb : Bytes r) (h : msg l r = .ok (m, l', r')) :
    Right m ∧ l' = nextL m ∧ ∃ p, r = p ++ r' ∧ (encOne l m).length ≤ p.length ∧ 1 ≤ p.length := by
  cases hv : vlq 4 0 r with
  | error e => unfold msg at h; rw [hv] at h; cases h
  | ok x =>
    obtain ⟨d, r1⟩ := x
    cases r1 with
    | nil => unfold msg at h; rw [hv] at h; cases h
    | cons c r1 =>
      rw [msg_at hv] at h
      obtain ⟨hd0, hd1, p, rfl, hp⟩ := vlq4_ok hb hv
      have hnl := (num_len d).1
      have hb1 : Bytes (c :: r1) := hb.right
      have hc := hb1.head
      by_cases c1 : c < 128
      · rw [if_pos c1] at h
        by_cases c2 : l = 0
        · rw [if_pos c2] at h; cases h
        · rw [if_neg c2] at h
          have hl2 : 128 ≤ l ∧ l < 240 := by rcases hl with hl | hl <;> omega
          obtain ⟨hr, hn, hf0, hk1, hk2, hst, q, hq, hqe⟩ := body_key_ok hd0 hd1 hb1 hl2.1 hl2.2 h
          refine ⟨hr, hn, p ++ q, by rw [hq, List.append_assoc], ?_, by rw [List.length_append]; omega⟩
          unfold encOne
          rw [if_neg hk1, if_neg hk2, if_pos hst, hf0, hqe]
          simp only [List.length_append, List.nil_append]
          omega
      · rw [if_neg c1] at h
        by_cases c2 : c > 240 ∧ c ≠ 247 ∧ c ≠ 255
        · rw [if_pos c2] at h; cases h
        · rw [if_neg c2] at h
          by_cases c3 : c < 240
          · obtain ⟨hr, hn, hf0, hk1, hk2, hst, q, hq, hqe⟩ := body_key_ok hd0 hd1 hb1.tail (by omega) c3 h
            refine ⟨hr, hn, p ++ (c :: q), by rw [hq, List.append_assoc, List.cons_append], ?_, qq1A⟩
            unfold encOne
            rw [if_neg hk1, if_neg hk2, hf0, hqe]
            simp only [List.length_append, List.length_cons]
            split <;> simp <;> omega
          · by_cases c4 : c = 255
            · subst c4
              rw [body_255] at h
              cases hlo : low r1 with
              | error e => rw [hlo] at h; cases h
              | ok x =>
                obtain ⟨a, r2⟩ := x
                rw [hlo] at h
                dsimp only at h
                obtain ⟨rfl, ha⟩ := low_ok hlo
                have ha0 := hb1.tail.head
                cases hda : dat r2 with
                | error e => rw [hda] at h; cases h
                | ok y =>
                  obtain ⟨bs, r3⟩ := y
                  rw [hda] at h
                  dsimp only at h
                  obtain ⟨hbl, hbb, q, rfl, hq⟩ := dat_ok hb1.tail.tail hda
                  injection h with h; injection h with e1 h; injection h with e2 e3; subst e1 e2 e3
                  refine ⟨⟨hd0, hd1, by show (strOfNums bs).size ≤ 100000; rw [str_size]; omega, .inr (.inr ⟨rfl, rfl, rfl, ha0.1, by show a ≤ 127; omega⟩)⟩, rfl, p ++ (255 :: a :: (q ++ bs)), by simp [List.append_assoc], ?_, qq1A⟩
                  unfold encOne
                  rw [if_pos rfl, str_size, bytesOf_str hbb]
                  simp only [List.length_append, List.length_cons]
                  omega
            · rw [body_sys c4 (by omega)] at h
              cases hda : dat r1 with
              | error e => rw [hda] at h; cases h
              | ok y =>
                obtain ⟨bs, r3⟩ := y
                rw [hda] at h
                dsimp only at h
                obtain ⟨hbl, hbb, q, rfl, hq⟩ := dat_ok hb1.tail hda
                injection h with h; injection h with e1 h; injection h with e2 e3; subst e1 e2 e3
                refine ⟨⟨hd0, hd1, by show (strOfNums bs).size ≤ 100000; rw [str_size]; omega, .inr (.inl ⟨rfl, rfl, rfl, by show c = 240 ∨ c = 247; omega⟩)⟩, rfl, p ++ (c :: (q ++ bs)), by simp [List.append_assoc], ?_, qq1A⟩
                unfold encOne
                rw [if_neg (by show ¬ (15 : Int) = 16; decide), if_pos rfl, str_size, bytesOf_str hbb]
                simp only [List.length_append, List.length_cons]
                omega
end Go.Proofs.Ytdmnknhlibaaoaa.Z
namespace Go.Proofs.Ytdmnknhlibaaoaa.Z
open Go.RowKit Go.Proofs.YtdmnknhlibaaoaaW.PrintWords Go.Proofs.Ytdmnknhlibaaoaa.M
set_option linter.unusedVariables false
def Rights (ms : List Msg) : Prop := ∀ m ∈ ms, Right m
theorem Rights.nil : Rights [] := by intro m h; cases h
theorem Rights.head {m : Msg} {ms : List Msg} (h : Rights (m :: ms)) : Right m := h m (by simp)
theorem Rights.tail {m : Msg} {ms : List Msg} (h : Rights (m :: ms)) : Rights ms := fun x hx => h x (by simp [hx])
theorem Rights.cons {m : Msg} {ms : List Msg} (h : Right m) (k : Rights ms) : Rights (m :: ms) := by
  intro x hx
  rcases List.mem_cons.1 hx with rfl | hx
  · exact h
  · exact k x hx
def lastOf : Int → List Msg → Int
  | l, [] => l
  | _, m :: ms => lastOf (nextL m) ms
theorem enc_nil (l : Int) : enc l [] = [] := rfl
theorem enc_cons (l : Int) (m : Msg) (ms : List Msg) : enc l (m :: ms) = encOne l m ++ enc (nextL m) ms := rfl
theorem dec_enc : ∀ {ms : List Msg} {l l' : Int} {r : List Int} {ns : List Msg}, Rights ms → (l' = l ∨ l' = 0) → Dec (lastOf l ms) r ns → Dec l (enc l' ms ++ r) (ms ++ ns)
  | [], _, _, _, _, _, _, h => h
  | m :: ms, l, l', r, ns, hr, hl, h => by
    rw [enc_cons, List.append_assoc, List.cons_append]
    exact .cons (msg_enc hr.head hl _) (dec_enc hr.tail (.inl rfl) h)
theorem dec_enc0 {ms : List Msg} {l l' : Int} (hr : Rights ms) (hl : l' = l ∨ l' = 0) : Dec l (enc l' ms) ms := by
  have h := dec_enc hr hl (.nil (lastOf l ms))
  rwa [List.append_nil, List.append_nil] at h
theorem enc_dec : ∀ {ms : List Msg} {l : Int} {r : List Int}, LastOk l → Bytes r → Dec l r ms → Rights ms ∧ (enc l ms).length ≤ r.length ∧ ms.length ≤ r.length
  | _, _, _, _, _, .nil _ => ⟨.nil, Nat.le_refl _, Nat.le_refl _⟩
  | _, _, _, hl, hb, .cons hm hd => by
    obtain ⟨h1, rfl, p, rfl, h2, h3⟩ := msg_ok hl hb hm
    obtain ⟨k1, k2, k3⟩ := enc_dec (nextL_ok h1) hb.right hd
    refine ⟨.cons h1 k1, ?_, ?_⟩
    · rw [enc_cons, List.length_append, List.length_append]; omega
    · rw [List.length_append, List.length_cons]; omega
theorem bad_len {l e : Int} {r : List Int} {k : Nat} (h : Bad l r e k) : LastOk l → Bytes r → 0 < k ∧ k ≤ r.length := by
  induction h with
  | here hne _ => exact fun _ _ => ⟨List.length_pos_iff.2 hne, Nat.le_refl _⟩
  | later hm _ ih =>
    intro hl hby
    obtain ⟨h1, rfl, p, rfl, h2, h3⟩ := msg_ok hl hby hm
    have := ih (nextL_ok h1) hby.right
    rw [List.length_append]
    omega
end Go.Proofs.Ytdmnknhlibaaoaa.Z
namespace Go.Proofs.Ytdmnknhlibaaoaa.M
open Go.RowKit Go.Proofs.YtdmnknhlibaaoaaW.PrintWords Go.Proofs.YtdmnknhlibaaoaaW.PrintLast Go.Proofs.YtdmnknhlibaaoaaW.PrintMore
attribute [local go_sem] max2_int min2_int max_two min_two max_three min_three max_four min_four
set_option linter.unusedVariables false
set_option linter.unusedSimpArgs false
def IsS86 (w0 W : World) (g : Nat) (f0 : ByteArray) (f1 : Int) (f2 : Int) (f3 : Int) : Prop := W.heap[g]? = some (.cells #[.string f0, .int .i64 f1, .int .i64 f2, .int .i64 f3] 86 (0, 0)) ∧ w0.heap.size ≤ g
theorem IsS86.grown {w0 W : World} {g : Nat} {f0 : ByteArray} {f1 : Int} {f2 : Int} {f3 : Int} {W1 : World} {row : Option Nat} (h : IsS86 w0 W g f0 f1 f2 f3) (hw : W.grownBy W1 row) (hne : some g ≠ row) : IsS86 w0 W1 g f0 f1 f2 f3 := by
  obtain ⟨hb, hg⟩ := h
  exact ⟨blk_grown hb hw hne, hg⟩
theorem IsS86.kept {w0 W : World} {g : Nat} {f0 : ByteArray} {f1 : Int} {f2 : Int} {f3 : Int} {W1 : World} {S : Nat → Prop} (h : IsS86 w0 W g f0 f1 f2 f3) (hk : Kept W W1 S) (hne : ¬ S g) : IsS86 w0 W1 g f0 f1 f2 f3 := by
  obtain ⟨hb, hg⟩ := h
  exact ⟨blk_kept hb hk hne, hg⟩
theorem IsS86.below {w0 W : World} {g : Nat} {f0 : ByteArray} {f1 : Int} {f2 : Int} {f3 : Int} {W1 : World} (h : IsS86 w0 W g f0 f1 f2 f3) (hw : Below W.heap.size W W1) : IsS86 w0 W1 g f0 f1 f2 f3 := h.grown (grown_of_below hw none) (by simp)
theorem IsS86.alloc {w0 W : World} {g : Nat} {f0 : ByteArray} {f1 : Int} {f2 : Int} {f3 : Int} (h : IsS86 w0 W g f0 f1 f2 f3) (o : Obj) : IsS86 w0 (W.alloc o) g f0 f1 f2 f3 := h.below (below_alloc (Below.refl _ _) o)
theorem IsS86.drewN {w0 W : World} {g : Nat} {f0 : ByteArray} {f1 : Int} {f2 : Int} {f3 : Int} (h : IsS86 w0 W g f0 f1 f2 f3) (m : Nat) : IsS86 w0 (W.drewN m) g f0 f1 f2 f3 := h
theorem IsS86.drew {w0 W : World} {g : Nat} {f0 : ByteArray} {f1 : Int} {f2 : Int} {f3 : Int} (h : IsS86 w0 W g f0 f1 f2 f3) : IsS86 w0 W.drew g f0 f1 f2 f3 := h
theorem IsS86.at_ {w0 W : World} {g : Nat} {f0 : ByteArray} {f1 : Int} {f2 : Int} {f3 : Int} {w' : World} {m : Nat} (hq : W.drewN m = w') (h : IsS86 w0 W g f0 f1 f2 f3) : IsS86 w0 w' g f0 f1 f2 f3 := by subst hq; exact IsS86.drewN h m
theorem IsS86.apart {w0 W : World} {g : Nat} {f0 : ByteArray} {f1 : Int} {f2 : Int} {f3 : Int} {α : Type} {d : Kd α} {e : Nat} {base : Nat} {ok : Nat → Prop} {v : Value} {xs : List α} (h : IsS86 w0 W g f0 f1 f2 f3) (ho : d.R e W base ok v xs) (ht : ∀ q, q ∈ e :: d.E → q ≠ 86) : d.R e W base (fun k => ok k ∧ k ≠ g) v xs := by
  obtain ⟨hb, hg⟩ := h
  exact Kd.R_types ho hb ht
theorem IsS86.own_ne {w0 W : World} {g : Nat} {f0 : ByteArray} {f1 : Int} {f2 : Int} {f3 : Int} {α : Type} {d : Kd α} {e : Nat} {base : Nat} {ok : Nat → Prop} {v : Value} {xs : List α} (h : IsS86 w0 W g f0 f1 f2 f3) (ho : d.R e W base ok v xs) (ht : e ≠ 86) : some g ≠ v.ownBlock := by
  obtain ⟨hb, hg⟩ := h
  exact Kd.R_ne ho hb ht
theorem IsS86.lt {w0 W : World} {g : Nat} {f0 : ByteArray} {f1 : Int} {f2 : Int} {f3 : Int} (h : IsS86 w0 W g f0 f1 f2 f3) : g < W.heap.size := by
  obtain ⟨hb, hg⟩ := h
  exact blk_lt hb
theorem IsS86.ge {w0 W : World} {g : Nat} {f0 : ByteArray} {f1 : Int} {f2 : Int} {f3 : Int} (h : IsS86 w0 W g f0 f1 f2 f3) : w0.heap.size ≤ g := by
  obtain ⟨hb, hg⟩ := h
  exact hg
theorem IsS86.ne_blk {w0 W : World} {g : Nat} {f0 : ByteArray} {f1 : Int} {f2 : Int} {f3 : Int} {a : Nat} {cs : Array Value} {t : TypeId} {fr : Nat × Nat} (h : IsS86 w0 W g f0 f1 f2 f3) (hb2 : W.heap[a]? = some (.cells cs t fr)) (ht : t ≠ 86) : g ≠ a := by
  obtain ⟨hb, hg⟩ := h
  rintro rfl
  rw [hb] at hb2
  injection hb2 with hb2
  injection hb2 with _ ht2
  exact ht ht2.symm
theorem IsS86.far {w0 W : World} {g : Nat} {f0 : ByteArray} {f1 : Int} {f2 : Int} {f3 : Int} {p : Addr} (h : IsS86 w0 W g f0 f1 f2 f3) (hne : g ≠ p.block) (u : Value) : IsS86 w0 (W.setCell p u) g f0 f1 f2 f3 := by
  obtain ⟨hb, hg⟩ := h
  exact ⟨blk_far hb hne u, hg⟩
theorem cellS86_0 {W : World} {g : Nat} {f0 : ByteArray} {f1 : Int} {f2 : Int} {f3 : Int} (h : W.heap[g]? = some (.cells #[.string f0, .int .i64 f1, .int .i64 f2, .int .i64 f3] 86 (0, 0))) : W.cell? ⟨g, 0, none⟩ = some (.string f0) := (blk_cell h 0).trans rfl
theorem IsS86.set_0 {w0 W : World} {g : Nat} {f0 : ByteArray} {f1 : Int} {f2 : Int} {f3 : Int} (h : IsS86 w0 W g f0 f1 f2 f3) (x : ByteArray) : IsS86 w0 (W.setCell ⟨g, 0, none⟩ (.string x)) g x f1 f2 f3 := by
  obtain ⟨hb, hg⟩ := h
  exact ⟨by simpa using blk_set hb 0 (.string x), hg⟩
theorem cellS86_1 {W : World} {g : Nat} {f0 : ByteArray} {f1 : Int} {f2 : Int} {f3 : Int} (h : W.heap[g]? = some (.cells #[.string f0, .int .i64 f1, .int .i64 f2, .int .i64 f3] 86 (0, 0))) : W.cell? ⟨g, 1, none⟩ = some (.int .i64 f1) := (blk_cell h 1).trans rfl
theorem IsS86.set_1 {w0 W : World} {g : Nat} {f0 : ByteArray} {f1 : Int} {f2 : Int} {f3 : Int} (h : IsS86 w0 W g f0 f1 f2 f3) (x : Int) : IsS86 w0 (W.setCell ⟨g, 1, none⟩ (.int .i64 x)) g f0 x f2 f3 := by
  obtain ⟨hb, hg⟩ := h
  exact ⟨by simpa using blk_set hb 1 (.int .i64 x), hg⟩
theorem cellS86_2 {W : World} {g : Nat} {f0 : ByteArray} {f1 : Int} {f2 : Int} {f3 : Int} (h : W.heap[g]? = some (.cells #[.string f0, .int .i64 f1, .int .i64 f2, .int .i64 f3] 86 (0, 0))) : W.cell? ⟨g, 2, none⟩ = some (.int .i64 f2) := (blk_cell h 2).trans rfl
theorem IsS86.set_2 {w0 W : World} {g : Nat} {f0 : ByteArray} {f1 : Int} {f2 : Int} {f3 : Int} (h : IsS86 w0 W g f0 f1 f2 f3) (x : Int) : IsS86 w0 (W.setCell ⟨g, 2, none⟩ (.int .i64 x)) g f0 f1 x f3 := by
  obtain ⟨hb, hg⟩ := h
  exact ⟨by simpa using blk_set hb 2 (.int .i64 x), hg⟩
theorem cellS86_3 {W : World} {g : Nat} {f0 : ByteArray} {f1 : Int} {f2 : Int} {f3 : Int} (h : W.heap[g]? = some (.cells #[.string f0, .int .i64 f1, .int .i64 f2, .int .i64 f3] 86 (0, 0))) : W.cell? ⟨g, 3, none⟩ = some (.int .i64 f3) := (blk_cell h 3).trans rfl
theorem IsS86.set_3 {w0 W : World} {g : Nat} {f0 : ByteArray} {f1 : Int} {f2 : Int} {f3 : Int} (h : IsS86 w0 W g f0 f1 f2 f3) (x : Int) : IsS86 w0 (W.setCell ⟨g, 3, none⟩ (.int .i64 x)) g f0 f1 f2 x := by
  obtain ⟨hb, hg⟩ := h
  exact ⟨by simpa using blk_set hb 3 (.int .i64 x), hg⟩
theorem IsS86.new (w0 W : World) (f0 : ByteArray) (f1 : Int) (f2 : Int) (f3 : Int) (hB : Below w0.heap.size w0 W) : IsS86 w0 (W.alloc (.cells #[.string f0, .int .i64 f1, .int .i64 f2, .int .i64 f3] 86)) W.heap.size f0 f1 f2 f3 := ⟨by simpa using heap_alloc_new W _, hB.size⟩
def wire_reader_fail.f (s0_0 : ByteArray) (s0_1 : Int) (s0_2 : Int) (s0_3 : Int) (a1 : Int) : Option (ByteArray × Int × Int × Int) := if s0_3 = 0 then (some (s0_0, s0_1, s0_2, a1)) else (some (s0_0, s0_1, s0_2, s0_3))
set_option maxHeartbeats 8000000 in
set_option maxRecDepth 100000 in
theorem wire_reader_fail.calls (g : Nat) (s0_0 : ByteArray) (s0_1 : Int) (s0_2 : Int) (s0_3 : Int) (a1 : Int) (r1 : ByteArray) (r2 : Int) (r3 : Int) (r4 : Int) (w0 w : World) (hI : IsS86 w0 w g s0_0 s0_1 s0_2 s0_3) (hB : Below w0.heap.size w0 w) (h : wire_reader_fail.f s0_0 s0_1 s0_2 s0_3 a1 = some (r1, r2, r3, r4)) :
    Calls Try.prog 77 #[.pointer (some ⟨g, 0, none⟩), .int .i64 a1] w fun e w' => e = .returned (.tuple #[]) ∧ IsS86 w0 w' g r1 r2 r3 r4 ∧ Below w0.heap.size w0 w' ∧ KeepBut w w' g none := by
  have HI0 := Aside0.mk hI
  have HK := Aside0.mk (KeepBut.refl w g none)
  have HL := Aside0.mk hB.size
  clear hI
  have HW0 := Aside0.mk hB.size
  have HB := Aside0.mk hB
  clear hB
  have H := h
  unfold wire_reader_fail.f at H
  clear h
  by_cases c3 : s0_3 = 0
  rotate_left
  · rw [if_neg c3] at H
    have c3b0 : (s0_3 == 0) = false := beq_eq_false_iff_ne.mpr c3
    have c3b1 : (s0_3 != 0) = true := bne_iff_ne.mpr c3
    simp only [Option.some.injEq, Prod.mk.injEq] at H
    obtain ⟨rfl, rfl, rfl, rfl⟩ := H
    obtain ⟨HGz5, hgz5⟩ := HI0.out
    have hcz5_0 := cellS86_0 HGz5
    have hcz5_1 := cellS86_1 HGz5
    have hcz5_2 := cellS86_2 HGz5
    have hcz5_3 := cellS86_3 HGz5
    have hfz5_0 := blk_frozen HGz5 0
    have hfz5_1 := blk_frozen HGz5 1
    have hfz5_2 := blk_frozen HGz5 2
    have hfz5_3 := blk_frozen HGz5 3
    clear HGz5 hgz5
    go_enter Try.func77, Try.ntmps77
    go_wp2
    first | go_end0 | ((try simp only [Exit.inBlock, Exit.then]); refine bodyPost_ret (results_none rfl _ _ _) rfl ?_)
    exact ⟨qq5, qq2, by repeat (first | (with_reducible first | exact HB.out | apply below_alloc | apply pw_below_drewN | apply below_drew1 | refine below_set ?_ (IsS86.ge HI0.out)) | exact HB.out), qq3⟩
  rw [if_pos c3] at H
  have c3b0 : (s0_3 == 0) = true := beq_iff_eq.mpr c3
  have c3b1 : (s0_3 != 0) = false := bne_eq_false_iff_eq.mpr c3
  clear c3
  simp only [Option.some.injEq, Prod.mk.injEq] at H
  obtain ⟨rfl, rfl, rfl, rfl⟩ := H
  obtain ⟨HGz4, hgz4⟩ := HI0.out
  have hcz4_0 := cellS86_0 HGz4
  have hcz4_1 := cellS86_1 HGz4
  have hcz4_2 := cellS86_2 HGz4
  have hcz4_3 := cellS86_3 HGz4
  have hfz4_0 := blk_frozen HGz4 0
  have hfz4_1 := blk_frozen HGz4 1
  have hfz4_2 := blk_frozen HGz4 2
  have hfz4_3 := blk_frozen HGz4 3
  clear HGz4 hgz4
  go_enter Try.func77, Try.ntmps77
  go_wp2
  first | go_end0 | ((try simp only [Exit.inBlock, Exit.then]); refine bodyPost_ret (results_none rfl _ _ _) rfl ?_)
  exact ⟨qq5, qq2, by repeat (first | (with_reducible first | exact HB.out | apply below_alloc | apply pw_below_drewN | apply below_drew1 | refine below_set ?_ (IsS86.ge HI0.out)) | exact HB.out), qq3⟩
def wire_one.f (a0 : Int) : Option (Bool) := if a0 = 12 then (some true) else (some (a0 == 13))
set_option maxHeartbeats 8000000 in
set_option maxRecDepth 100000 in
theorem wire_one.calls (a0 : Int) (r : Bool) (w : World) (h : wire_one.f a0 = some r) :
    Calls Try.prog 37 #[.int .i64 a0] w fun e w' => e = .returned (.bool r) ∧ Drawn0 w w' := by
  have H := h
  unfold wire_one.f at H
  clear h
  by_cases c2 : a0 = 12
  · rw [if_pos c2] at H
    have c2b0 : (a0 == 12) = true := beq_iff_eq.mpr c2
    have c2b1 : (a0 != 12) = false := bne_eq_false_iff_eq.mpr c2
    clear c2
    obtain rfl := Option.some.inj H
    go_enter Try.func37, Try.ntmps37
    go_wp2
    go_ret
    exact ⟨qq8, qqf⟩
  · rw [if_neg c2] at H
    have c2b0 : (a0 == 12) = false := beq_eq_false_iff_ne.mpr c2
    have c2b1 : (a0 != 12) = true := bne_iff_ne.mpr c2
    obtain rfl := Option.some.inj H
    go_enter Try.func37, Try.ntmps37
    go_wp2
    go_ret
    exact ⟨qq8, qqf⟩
mutual
def wire_ReadVlq.j0 : Nat → ByteArray → Int → Bool → Option (Int × Int × Int)
  | 0, _, _, _ => none
  | k + 1, x0, x1, x17 => if x17 = true then (some (0, 0, 2)) else (wire_ReadVlq.l0 k x0 x1 0 0)
def wire_ReadVlq.l0 : Nat → ByteArray → Int → Int → Int → Option (Int × Int × Int)
  | 0, _, _, _, _ => none
  | k + 1, x0, x1, x7, x18 => if x18 < 4 then (if (wrap64 (x1 + x18)) ≥ (x0.size : Int) then (some (0, 0, 152)) else (if 0 ≤ (wrap64 (x1 + x18)) then (if (wrap64 (x1 + x18)) < (x0.size : Int) then (if (wrap64 (bt x0 (wrap64 (x1 + x18)))) < 128 then (some (wrap64 ((wrap64 (x7 * 128)) + (Int.tmod (wrap64 (bt x0 (wrap64 (x1 + x18)))) 128)), wrap64 ((wrap64 (x1 + x18)) + 1), 0)) else (wire_ReadVlq.l0 k x0 x1 (wrap64 ((wrap64 (x7 * 128)) + (Int.tmod (wrap64 (bt x0 (wrap64 (x1 + x18)))) 128))) (wrap64 (x18 + 1)))) else (none)) else (none))) else (some (0, 0, 150))
end
def wire_ReadVlq.f (k : Nat) (a0 : ByteArray) (a1 : Int) : Option (Int × Int × Int) := if a1 < 0 then (wire_ReadVlq.j0 k a0 a1 true) else (wire_ReadVlq.j0 k a0 a1 (decide (a1 > (a0.size : Int))))
theorem wire_ReadVlq.mono_l : ∀ k, (∀ y0 y1 y2, LeO (wire_ReadVlq.j0 k y0 y1 y2) (wire_ReadVlq.j0 (k + 1) y0 y1 y2)) ∧ (∀ y0 y1 y2 y3, LeO (wire_ReadVlq.l0 k y0 y1 y2 y3) (wire_ReadVlq.l0 (k + 1) y0 y1 y2 y3))
  | 0 => ⟨fun _ _ _ r h => by simp [wire_ReadVlq.j0] at h, fun _ _ _ _ r h => by simp [wire_ReadVlq.l0] at h⟩
  | k + 1 => by
    obtain ⟨ih0, ih1⟩ := wire_ReadVlq.mono_l k
    refine ⟨?_, ?_⟩
    · intro y0 y1 y2
      unfold wire_ReadVlq.j0
      repeat' first
      | (with_reducible exact ih0 _ _ _)
      | (with_reducible exact ih1 _ _ _ _)
      | (with_reducible exact LeO.refl _)
      | (with_reducible exact LeO.none _)
      | (with_reducible refine LeO.ite ?_ ?_)
      | (with_reducible refine LeO.bind ?_ (fun _ => ?_))
      | exact ih0 _ _ _
      | exact ih1 _ _ _ _
      | exact LeO.none _
      | refine LeO.ite ?_ ?_
      | refine LeO.bind ?_ (fun _ => ?_)
    · intro y0 y1 y2 y3
      unfold wire_ReadVlq.l0
      repeat' first
      | (with_reducible exact ih0 _ _ _)
      | (with_reducible exact ih1 _ _ _ _)
      | (with_reducible exact LeO.refl _)
      | (with_reducible exact LeO.none _)
      | (with_reducible refine LeO.ite ?_ ?_)
      | (with_reducible refine LeO.bind ?_ (fun _ => ?_))
      | exact ih0 _ _ _
      | exact ih1 _ _ _ _
      | exact LeO.none _
      | refine LeO.ite ?_ ?_
      | refine LeO.bind ?_ (fun _ => ?_)
theorem wire_ReadVlq.mono : ∀ a0 a1 k, LeO (wire_ReadVlq.f k a0 a1) (wire_ReadVlq.f (k + 1) a0 a1) := by
  intro a0 a1 k
  obtain ⟨ih0, ih1⟩ := wire_ReadVlq.mono_l k
  unfold wire_ReadVlq.f
  repeat' first
      | (with_reducible exact ih0 _ _ _)
      | (with_reducible exact ih1 _ _ _ _)
      | (with_reducible exact LeO.refl _)
      | (with_reducible exact LeO.none _)
      | (with_reducible refine LeO.ite ?_ ?_)
      | (with_reducible refine LeO.bind ?_ (fun _ => ?_))
      | exact ih0 _ _ _
      | exact ih1 _ _ _ _
      | exact LeO.none _
      | refine LeO.ite ?_ ?_
      | refine LeO.bind ?_ (fun _ => ?_)
set_option maxHeartbeats 8000000 in
set_option maxRecDepth 100000 in
theorem wire_ReadVlq.calls (k : Nat) (a0 : ByteArray) (a1 : Int) (r1 : Int) (r2 : Int) (r3 : Int) (w : World) (h : wire_ReadVlq.f k a0 a1 = some (r1, r2, r3)) :
    Calls Try.prog 76 #[.string a0, .int .i64 a1] w fun e w' => e = .returned (.tuple #[.int .i64 r1, .int .i64 r2, .int .i64 r3]) ∧ Drawn0 w w' := by
  have H := h
  unfold wire_ReadVlq.f at H
  clear h
  have HC3 := Aside0.mk H
  clear H
  go_enter Try.func76, Try.ntmps76
  go_upto_region 1 with (fail)
  go_cut [17] (fun v17 wc => ∃ (kq : Nat) (x17_2 : Bool), v17 = .bool x17_2 ∧ Aside0 (wire_ReadVlq.j0 kq a0 a1 x17_2 = some (r1, r2, r3)) ∧ Aside0 (kq ≤ k) ∧ Drawn0 w wc)
  case first =>
    have H := HC3.out
    clear HC3
    by_cases c4 : a1 < 0
    · rw [if_pos c4] at H
      have c4b0 : decide (a1 < 0) = true := decide_eq_true c4
      clear c4
      (first | rw [c4b0] | (simp only [i64_w, i32_w]; rw [c4b0]) | skip)
      have H' := Aside0.mk H
      clear H
      go_wp2
      go_meet
      case rel => exact ⟨_, (true), qq8, H', ⟨qqA⟩, qqf⟩
    rw [if_neg c4] at H
    have c4b0 : decide (a1 < 0) = false := decide_eq_false c4
    clear c4
    (first | rw [c4b0] | (simp only [i64_w, i32_w]; rw [c4b0]) | skip)
    have H' := Aside0.mk H
    clear H
    go_wp2
    go_meet
    case rel => exact ⟨_, (decide (a1 > (a0.size : Int))), qq8, H', ⟨qqA⟩, qqf⟩
  case rest =>
    clear HC3
    try clear p2
    try clear c4
    try clear c4b0
    obtain ⟨kq, x17_2, rfl, HA, HJ2, ⟨mc2, rfl⟩⟩ := hcut
    cases kq with
    | zero => exact absurd HA.out (by simp [wire_ReadVlq.j0])
    | succ kj2 =>
      have H := HA.out
      clear HA
      simp only [wire_ReadVlq.j0] at H
      by_cases c5 : x17_2 = true
      · subst c5
        have H1 : (some (0, 0, 2)) = some (r1, r2, r3) := by rw [if_pos rfl] at H; exact H
        clear H
        have H := H1
        clear H1
        simp only [Option.some.injEq, Prod.mk.injEq] at H
        obtain ⟨rfl, rfl, rfl⟩ := H
        go_wp2
        go_ret3
        exact ⟨qq8, qqf⟩
      replace c5 := Bool.eq_false_iff.mpr c5
      subst c5
      have H1 : (wire_ReadVlq.l0 kj2 a0 a1 0 0) = some (r1, r2, r3) := by rw [if_neg (show ¬ (false = true) by decide)] at H; exact H
      clear H
      have H := H1
      clear H1
      have H' := Aside0.mk H
      clear H
      go_wp2
      go_loopg [7, 18] kj2 (fun kq v7 v18 w' => ∃ (x7_2 : Int) (x18_2 : Int), v7 = .int .i64 x7_2 ∧ v18 = .int .i64 x18_2 ∧ Aside0 (wire_ReadVlq.l0 kq a0 a1 x7_2 x18_2 = some (r1, r2, r3)) ∧ Aside0 (kq ≤ kj2) ∧ Drawn0 w w')
      case atStart => exact ⟨(0), (0), qq8, qq8, H', ⟨Nat.le_refl _⟩, qqf⟩
      case round =>
        clear H'
        try clear c2
        try clear p2
        try clear c4
        try clear c4b0
        try clear c5
        try clear p2
        obtain ⟨x7_2, x18_2, rfl, rfl, HA, HK2, ⟨m2, rfl⟩⟩ := hrel
        cases gk with
        | zero => exact absurd HA.out (by simp [wire_ReadVlq.l0])
        | succ k2 =>
          have H := HA.out
          clear HA
          simp only [wire_ReadVlq.l0] at H
          by_cases c6 : x18_2 < 4
          rotate_left
          · rw [if_neg c6] at H
            have c6b0 : decide (x18_2 < 4) = false := decide_eq_false c6
            clear c6
            simp only [Option.some.injEq, Prod.mk.injEq] at H
            obtain ⟨rfl, rfl, rfl⟩ := H
            go_wp2
            go_ret3
            exact ⟨qq8, qqf⟩
          rw [if_pos c6] at H
          have c6b0 : decide (x18_2 < 4) = true := decide_eq_true c6
          clear c6
          by_cases c7 : (wrap64 (a1 + x18_2)) ≥ (a0.size : Int)
          · rw [if_pos c7] at H
            have c7b0 : decide ((a0.size : Int) ≤ (wrap64 (a1 + x18_2))) = true := decide_eq_true c7
            clear c7
            simp only [Option.some.injEq, Prod.mk.injEq] at H
            obtain ⟨rfl, rfl, rfl⟩ := H
            go_wp2
            go_ret3
            exact ⟨qq8, qqf⟩
          rw [if_neg c7] at H
          have c7b0 : decide ((a0.size : Int) ≤ (wrap64 (a1 + x18_2))) = false := decide_eq_false c7
          clear c7
          obtain ⟨ji8, hji8⟩ : ∃ j_ : Int, (wrap64 (a1 + x18_2)) = j_ := ⟨_, rfl⟩
          replace H : (if 0 ≤ (ji8) then (if (ji8) < (a0.size : Int) then (if (wrap64 (bt a0 (ji8))) < 128 then (some (wrap64 ((wrap64 (x7_2 * 128)) + (Int.tmod (wrap64 (bt a0 (ji8))) 128)), wrap64 ((ji8) + 1), 0)) else (wire_ReadVlq.l0 k2 a0 a1 (wrap64 ((wrap64 (x7_2 * 128)) + (Int.tmod (wrap64 (bt a0 (ji8))) 128))) (wrap64 (x18_2 + 1)))) else (none)) else (none)) = some (r1, r2, r3) := by first | (rw [hji8] at H; exact H) | (simp only [hji8] at H ⊢; exact H)
          (try rw [hji8] at c7b0)
          have hji8w : (IntKind.i64.wrap (a1 + x18_2)) = ji8 := (i64_w _).trans hji8
          by_cases c9 : 0 ≤ (ji8)
          rotate_left
          · rw [if_neg c9] at H
            exact absurd H (by simp)
          rw [if_pos c9] at H
          have c9b0 : decide (0 ≤ (ji8)) = true := decide_eq_true c9
          clear c9
          by_cases c10 : (ji8) < (a0.size : Int)
          rotate_left
          · rw [if_neg c10] at H
            exact absurd H (by simp)
          rw [if_pos c10] at H
          have c10b0 : decide ((ji8) < (a0.size : Int)) = true := decide_eq_true c10
          clear c10
          by_cases c12 : (wrap64 (bt a0 (ji8))) < 128
          · rw [if_pos c12] at H
            have c12b0 : decide ((wrap64 (bt a0 (ji8))) < 128) = true := decide_eq_true c12
            clear c12
            simp only [Option.some.injEq, Prod.mk.injEq] at H
            obtain ⟨rfl, rfl, rfl⟩ := H
            have p11 : 0 ≤ ((ji8) : Int) := of_decide_eq_true qq4
            have q11 : (ji8) < (a0.size : Int) := of_decide_eq_true qq4
            have hx11 := bt_at a0 (ji8)
            replace p11 := eq_true p11
            replace q11 := eq_true q11
            go_wp2
            go_ret3
            exact ⟨by first | rfl | (simp; done) | (simp only [← hji8] <;> (first | rfl | simp)) | (simp [*]; done), qqf⟩
          rw [if_neg c12] at H
          have c12b0 : decide ((wrap64 (bt a0 (ji8))) < 128) = false := decide_eq_false c12
          clear c12
          have H' := Aside0.mk H
          clear H
          have p11 : 0 ≤ ((ji8) : Int) := of_decide_eq_true qq4
          have q11 : (ji8) < (a0.size : Int) := of_decide_eq_true qq4
          have hx11 := bt_at a0 (ji8)
          replace p11 := eq_true p11
          replace q11 := eq_true q11
          go_wp2
          go_roundg k2
          case measure => have := HJ2.out; have := HK2.out; omega
          case rel => exact ⟨(wrap64 ((wrap64 (x7_2 * 128)) + (Int.tmod (wrap64 (bt a0 (ji8))) 128))), (wrap64 (x18_2 + 1)), (by first | rfl | (simp; done) | (simp only [← hji8] <;> (first | rfl | simp)) | (simp [*]; done)), qq8, H', ⟨by have := HJ2.out; have := HK2.out; omega⟩, qqf⟩
def wire_reader_number.f (k : Nat) (s0_0 : ByteArray) (s0_1 : Int) (s0_2 : Int) (s0_3 : Int) : Option (Int × ByteArray × Int × Int × Int) := if s0_3 = 0 then ((wire_ReadVlq.f k s0_0 s0_1).bind fun bt101 => (if bt101.2.2 = 0 then (some (bt101.1, s0_0, bt101.2.1, s0_2, s0_3)) else ((wire_reader_fail.f s0_0 s0_1 s0_2 s0_3 bt101.2.2).bind fun bt104 => (some (0, bt104.1, bt104.2.1, bt104.2.2.1, bt104.2.2.2))))) else (some (0, s0_0, s0_1, s0_2, s0_3))
theorem wire_reader_number.mono : ∀ a0 a1 a2 a3 k, LeO (wire_reader_number.f k a0 a1 a2 a3) (wire_reader_number.f (k + 1) a0 a1 a2 a3) := by
  intro a0 a1 a2 a3 k
  unfold wire_reader_number.f
  repeat' first
      | (with_reducible exact wire_ReadVlq.mono _ _ _)
      | (with_reducible exact LeO.refl _)
      | (with_reducible exact LeO.none _)
      | (with_reducible refine LeO.ite ?_ ?_)
      | (with_reducible refine LeO.bind ?_ (fun _ => ?_))
      | exact wire_ReadVlq.mono _ _ _
      | exact LeO.none _
      | refine LeO.ite ?_ ?_
      | refine LeO.bind ?_ (fun _ => ?_)
set_option maxHeartbeats 8000000 in
set_option maxRecDepth 100000 in
theorem wire_reader_number.calls (k : Nat) (g : Nat) (s0_0 : ByteArray) (s0_1 : Int) (s0_2 : Int) (s0_3 : Int) (r1 : Int) (r2 : ByteArray) (r3 : Int) (r4 : Int) (r5 : Int) (w0 w : World) (hI : IsS86 w0 w g s0_0 s0_1 s0_2 s0_3) (hB : Below w0.heap.size w0 w) (h : wire_reader_number.f k s0_0 s0_1 s0_2 s0_3 = some (r1, r2, r3, r4, r5)) :
    Calls Try.prog 70 #[.pointer (some ⟨g, 0, none⟩)] w fun e w' => e = .returned (.int .i64 r1) ∧ IsS86 w0 w' g r2 r3 r4 r5 ∧ Below w0.heap.size w0 w' ∧ KeepBut w w' g none := by
  have HI0 := Aside0.mk hI
  have HK := Aside0.mk (KeepBut.refl w g none)
  have HL := Aside0.mk hB.size
  clear hI
  have HW0 := Aside0.mk hB.size
  have HB := Aside0.mk hB
  clear hB
  have H := h
  unfold wire_reader_number.f at H
  clear h
  by_cases c2 : s0_3 = 0
  rotate_left
  · rw [if_neg c2] at H
    have c2b0 : (s0_3 == 0) = false := beq_eq_false_iff_ne.mpr c2
    have c2b1 : (s0_3 != 0) = true := bne_iff_ne.mpr c2
    simp only [Option.some.injEq, Prod.mk.injEq] at H
    obtain ⟨rfl, rfl, rfl, rfl, rfl⟩ := H
    obtain ⟨HGz9, hgz9⟩ := HI0.out
    have hcz9_0 := cellS86_0 HGz9
    have hcz9_1 := cellS86_1 HGz9
    have hcz9_2 := cellS86_2 HGz9
    have hcz9_3 := cellS86_3 HGz9
    have hfz9_0 := blk_frozen HGz9 0
    have hfz9_1 := blk_frozen HGz9 1
    have hfz9_2 := blk_frozen HGz9 2
    have hfz9_3 := blk_frozen HGz9 3
    clear HGz9 hgz9
    go_enter Try.func70, Try.ntmps70
    go_wp2
    repeat (go_quiet (fail); try go_wp2)
    go_ret
    exact ⟨qq5, qq2, by repeat (first | (with_reducible first | exact HB.out | apply below_alloc | apply pw_below_drewN | apply below_drew1 | refine below_set ?_ (IsS86.ge HI0.out)) | exact HB.out), qq3⟩
  rw [if_pos c2] at H
  have c2b0 : (s0_3 == 0) = true := beq_iff_eq.mpr c2
  have c2b1 : (s0_3 != 0) = false := bne_eq_false_iff_eq.mpr c2
  clear c2
  replace H := Option.bind_eq_some_iff.mp H
  obtain ⟨⟨t101, t102, t103⟩, A30, H⟩ := H
  try dsimp -simprocs only at H
  have A3 := Aside0.mk A30
  clear A30
  by_cases c4 : t103 = 0
  · rw [if_pos c4] at H
    have c4b0 : (t103 == 0) = true := beq_iff_eq.mpr c4
    have c4b1 : (t103 != 0) = false := bne_eq_false_iff_eq.mpr c4
    clear c4
    simp only [Option.some.injEq, Prod.mk.injEq] at H
    obtain ⟨rfl, rfl, rfl, rfl, rfl⟩ := H
    obtain ⟨HGz5, hgz5⟩ := HI0.out
    have hcz5_0 := cellS86_0 HGz5
    have hcz5_1 := cellS86_1 HGz5
    have hcz5_2 := cellS86_2 HGz5
    have hcz5_3 := cellS86_3 HGz5
    have hfz5_0 := blk_frozen HGz5 0
    have hfz5_1 := blk_frozen HGz5 1
    have hfz5_2 := blk_frozen HGz5 2
    have hfz5_3 := blk_frozen HGz5 3
    clear HGz5 hgz5
    go_enter Try.func70, Try.ntmps70
    go_wp2_with (first | (go_at_call 76; (with_reducible refine (wire_ReadVlq.calls k s0_0 s0_1 t101 t102 t103 _ A3.out).mono ?_); rintro e w' ⟨rfl, ⟨nd, rfl⟩⟩; (try first | exact ⟨rfl, _, World.drewN_drewN _ _ _⟩ | exact ⟨rfl, _, Eq.trans (World.drewN_drewN _ _ _) (congrArg (World.drewN _) (Nat.add_assoc _ _ _))⟩)))
    repeat (go_quiet (first | (go_at_call 76; (with_reducible refine (wire_ReadVlq.calls k s0_0 s0_1 t101 t102 t103 _ A3.out).mono ?_); rintro e w' ⟨rfl, ⟨nd, rfl⟩⟩; (try first | exact ⟨rfl, _, World.drewN_drewN _ _ _⟩ | exact ⟨rfl, _, Eq.trans (World.drewN_drewN _ _ _) (congrArg (World.drewN _) (Nat.add_assoc _ _ _))⟩))); try go_wp2_with (first | (go_at_call 76; (with_reducible refine (wire_ReadVlq.calls k s0_0 s0_1 t101 t102 t103 _ A3.out).mono ?_); rintro e w' ⟨rfl, ⟨nd, rfl⟩⟩; (try first | exact ⟨rfl, _, World.drewN_drewN _ _ _⟩ | exact ⟨rfl, _, Eq.trans (World.drewN_drewN _ _ _) (congrArg (World.drewN _) (Nat.add_assoc _ _ _))⟩))))
    go_ret
    exact ⟨qq5, qq2, by repeat (first | (with_reducible first | exact HB.out | apply below_alloc | apply pw_below_drewN | apply below_drew1 | refine below_set ?_ (IsS86.ge HI0.out)) | exact HB.out), qq3⟩
  rw [if_neg c4] at H
  have c4b0 : (t103 == 0) = false := beq_eq_false_iff_ne.mpr c4
  have c4b1 : (t103 != 0) = true := bne_iff_ne.mpr c4
  replace H := Option.bind_eq_some_iff.mp H
  obtain ⟨⟨t104, t105, t106, t107⟩, A60, H⟩ := H
  try dsimp -simprocs only at H
  have A6 := Aside0.mk A60
  clear A60
  simp only [Option.some.injEq, Prod.mk.injEq] at H
  obtain ⟨rfl, rfl, rfl, rfl, rfl⟩ := H
  obtain ⟨HGz7, hgz7⟩ := HI0.out
  have hcz7_0 := cellS86_0 HGz7
  have hcz7_1 := cellS86_1 HGz7
  have hcz7_2 := cellS86_2 HGz7
  have hcz7_3 := cellS86_3 HGz7
  have hfz7_0 := blk_frozen HGz7 0
  have hfz7_1 := blk_frozen HGz7 1
  have hfz7_2 := blk_frozen HGz7 2
  have hfz7_3 := blk_frozen HGz7 3
  clear HGz7 hgz7
  go_enter Try.func70, Try.ntmps70
  go_wp2_with (first | (go_at_call 76; (with_reducible refine (wire_ReadVlq.calls k s0_0 s0_1 t101 t102 t103 _ A3.out).mono ?_); rintro e w' ⟨rfl, ⟨nd, rfl⟩⟩; (try first | exact ⟨rfl, _, World.drewN_drewN _ _ _⟩ | exact ⟨rfl, _, Eq.trans (World.drewN_drewN _ _ _) (congrArg (World.drewN _) (Nat.add_assoc _ _ _))⟩)) | (go_at_call 77; (with_reducible refine (wire_reader_fail.calls g s0_0 s0_1 s0_2 s0_3 t103 t104 t105 t106 t107 w0 _ ?side1 ?side2 A6.out).mono ?_); (case side1 => exact qq2); (case side2 => repeat (first | (with_reducible first | exact HB.out | apply below_alloc | apply pw_below_drewN | apply below_drew1 | refine below_set ?_ (IsS86.ge HI0.out)) | exact HB.out)); rintro e w8 ⟨rfl, hi, hb, hk⟩; replace HK := Aside0.mk (KeepBut.trans qq3 hk (.inl rfl)); replace HB := Aside0.mk (hb); replace HI0 := Aside0.mk (hi); (try clear hb); (try clear hb2); (try clear hk); (try clear hi)))
  repeat (go_quiet (first | (go_at_call 76; (with_reducible refine (wire_ReadVlq.calls k s0_0 s0_1 t101 t102 t103 _ A3.out).mono ?_); rintro e w' ⟨rfl, ⟨nd, rfl⟩⟩; (try first | exact ⟨rfl, _, World.drewN_drewN _ _ _⟩ | exact ⟨rfl, _, Eq.trans (World.drewN_drewN _ _ _) (congrArg (World.drewN _) (Nat.add_assoc _ _ _))⟩)) | (go_at_call 77; (with_reducible refine (wire_reader_fail.calls g s0_0 s0_1 s0_2 s0_3 t103 t104 t105 t106 t107 w0 _ ?side1 ?side2 A6.out).mono ?_); (case side1 => exact qq2); (case side2 => repeat (first | (with_reducible first | exact HB.out | apply below_alloc | apply pw_below_drewN | apply below_drew1 | refine below_set ?_ (IsS86.ge HI0.out)) | exact HB.out)); rintro e w8 ⟨rfl, hi, hb, hk⟩; replace HK := Aside0.mk (KeepBut.trans qq3 hk (.inl rfl)); replace HB := Aside0.mk (hb); replace HI0 := Aside0.mk (hi); (try clear hb); (try clear hb2); (try clear hk); (try clear hi))); try go_wp2_with (first | (go_at_call 76; (with_reducible refine (wire_ReadVlq.calls k s0_0 s0_1 t101 t102 t103 _ A3.out).mono ?_); rintro e w' ⟨rfl, ⟨nd, rfl⟩⟩; (try first | exact ⟨rfl, _, World.drewN_drewN _ _ _⟩ | exact ⟨rfl, _, Eq.trans (World.drewN_drewN _ _ _) (congrArg (World.drewN _) (Nat.add_assoc _ _ _))⟩)) | (go_at_call 77; (with_reducible refine (wire_reader_fail.calls g s0_0 s0_1 s0_2 s0_3 t103 t104 t105 t106 t107 w0 _ ?side1 ?side2 A6.out).mono ?_); (case side1 => exact qq2); (case side2 => repeat (first | (with_reducible first | exact HB.out | apply below_alloc | apply pw_below_drewN | apply below_drew1 | refine below_set ?_ (IsS86.ge HI0.out)) | exact HB.out)); rintro e w8 ⟨rfl, hi, hb, hk⟩; replace HK := Aside0.mk (KeepBut.trans qq3 hk (.inl rfl)); replace HB := Aside0.mk (hb); replace HI0 := Aside0.mk (hi); (try clear hb); (try clear hb2); (try clear hk); (try clear hi))))
  go_ret
  exact ⟨qq5, qq2, by repeat (first | (with_reducible first | exact HB.out | apply below_alloc | apply pw_below_drewN | apply below_drew1 | refine below_set ?_ (IsS86.ge HI0.out)) | exact HB.out), qq3⟩
def wire_reader_status.f (s0_0 : ByteArray) (s0_1 : Int) (s0_2 : Int) (s0_3 : Int) : Option (Int × ByteArray × Int × Int × Int) := if s0_3 = 0 then (if s0_1 ≥ (s0_0.size : Int) then ((wire_reader_fail.f s0_0 s0_1 s0_2 s0_3 152).bind fun bt101 => (some (0, bt101.1, bt101.2.1, bt101.2.2.1, bt101.2.2.2))) else (if 0 ≤ s0_1 then (if s0_1 < (s0_0.size : Int) then (if (wrap64 (bt s0_0 s0_1)) < 128 then (if s0_2 = 0 then ((wire_reader_fail.f s0_0 s0_1 s0_2 s0_3 151).bind fun bt105 => (some (bt105.2.2.1, bt105.1, bt105.2.1, bt105.2.2.1, bt105.2.2.2))) else (some (s0_2, s0_0, s0_1, s0_2, s0_3))) else (if (wrap64 (bt s0_0 s0_1)) > 240 then (if (wrap64 (bt s0_0 s0_1)) = 247 then (some (wrap64 (bt s0_0 s0_1), s0_0, wrap64 (s0_1 + 1), s0_2, s0_3)) else (if (wrap64 (bt s0_0 s0_1)) = 255 then (some (wrap64 (bt s0_0 s0_1), s0_0, wrap64 (s0_1 + 1), s0_2, s0_3)) else ((wire_reader_fail.f s0_0 s0_1 s0_2 s0_3 151).bind fun bt109 => (some (wrap64 (bt s0_0 s0_1), bt109.1, wrap64 (bt109.2.1 + 1), bt109.2.2.1, bt109.2.2.2))))) else (some (wrap64 (bt s0_0 s0_1), s0_0, wrap64 (s0_1 + 1), s0_2, s0_3)))) else (none)) else (none))) else (some (0, s0_0, s0_1, s0_2, s0_3))
set_option maxHeartbeats 8000000 in
set_option maxRecDepth 100000 in
theorem wire_reader_status.calls (g : Nat) (s0_0 : ByteArray) (s0_1 : Int) (s0_2 : Int) (s0_3 : Int) (r1 : Int) (r2 : ByteArray) (r3 : Int) (r4 : Int) (r5 : Int) (w0 w : World) (hI : IsS86 w0 w g s0_0 s0_1 s0_2 s0_3) (hB : Below w0.heap.size w0 w) (h : wire_reader_status.f s0_0 s0_1 s0_2 s0_3 = some (r1, r2, r3, r4, r5)) :
    Calls Try.prog 71 #[.pointer (some ⟨g, 0, none⟩)] w fun e w' => e = .returned (.int .i64 r1) ∧ IsS86 w0 w' g r2 r3 r4 r5 ∧ Below w0.heap.size w0 w' ∧ KeepBut w w' g none := by
  have HI0 := Aside0.mk hI
  have HK := Aside0.mk (KeepBut.refl w g none)
  have HL := Aside0.mk hB.size
  clear hI
  have HW0 := Aside0.mk hB.size
  have HB := Aside0.mk hB
  clear hB
  have H := h
  unfold wire_reader_status.f at H
  clear h
  by_cases c2 : s0_3 = 0
  rotate_left
  · rw [if_neg c2] at H
    have c2b0 : (s0_3 == 0) = false := beq_eq_false_iff_ne.mpr c2
    have c2b1 : (s0_3 != 0) = true := bne_iff_ne.mpr c2
    simp only [Option.some.injEq, Prod.mk.injEq] at H
    obtain ⟨rfl, rfl, rfl, rfl, rfl⟩ := H
    obtain ⟨HGz27, hgz27⟩ := HI0.out
    have hcz27_0 := cellS86_0 HGz27
    have hcz27_1 := cellS86_1 HGz27
    have hcz27_2 := cellS86_2 HGz27
    have hcz27_3 := cellS86_3 HGz27
    have hfz27_0 := blk_frozen HGz27 0
    have hfz27_1 := blk_frozen HGz27 1
    have hfz27_2 := blk_frozen HGz27 2
    have hfz27_3 := blk_frozen HGz27 3
    clear HGz27 hgz27
    go_enter Try.func71, Try.ntmps71
    go_wp2
    repeat (go_quiet (fail); try go_wp2)
    go_ret
    exact ⟨qq5, qq2, by repeat (first | (with_reducible first | exact HB.out | apply below_alloc | apply pw_below_drewN | apply below_drew1 | refine below_set ?_ (IsS86.ge HI0.out)) | exact HB.out), qq3⟩
  rw [if_pos c2] at H
  have c2b0 : (s0_3 == 0) = true := beq_iff_eq.mpr c2
  have c2b1 : (s0_3 != 0) = false := bne_eq_false_iff_eq.mpr c2
  clear c2
  by_cases c3 : s0_1 ≥ (s0_0.size : Int)
  · rw [if_pos c3] at H
    have c3b0 : decide ((s0_0.size : Int) ≤ s0_1) = true := decide_eq_true c3
    clear c3
    replace H := Option.bind_eq_some_iff.mp H
    obtain ⟨⟨t101, t102, t103, t104⟩, A40, H⟩ := H
    try dsimp -simprocs only at H
    have A4 := Aside0.mk A40
    clear A40
    simp only [Option.some.injEq, Prod.mk.injEq] at H
    obtain ⟨rfl, rfl, rfl, rfl, rfl⟩ := H
    obtain ⟨HGz5, hgz5⟩ := HI0.out
    have hcz5_0 := cellS86_0 HGz5
    have hcz5_1 := cellS86_1 HGz5
    have hcz5_2 := cellS86_2 HGz5
    have hcz5_3 := cellS86_3 HGz5
    have hfz5_0 := blk_frozen HGz5 0
    have hfz5_1 := blk_frozen HGz5 1
    have hfz5_2 := blk_frozen HGz5 2
    have hfz5_3 := blk_frozen HGz5 3
    clear HGz5 hgz5
    go_enter Try.func71, Try.ntmps71
    go_wp2_with (first | (go_at_call 77; (with_reducible refine (wire_reader_fail.calls g s0_0 s0_1 s0_2 s0_3 152 t101 t102 t103 t104 w0 _ ?side1 ?side2 A4.out).mono ?_); (case side1 => exact qq2); (case side2 => repeat (first | (with_reducible first | exact HB.out | apply below_alloc | apply pw_below_drewN | apply below_drew1 | refine below_set ?_ (IsS86.ge HI0.out)) | exact HB.out)); rintro e w6 ⟨rfl, hi, hb, hk⟩; replace HK := Aside0.mk (KeepBut.trans qq3 hk (.inl rfl)); replace HB := Aside0.mk (hb); replace HI0 := Aside0.mk (hi); (try clear hb); (try clear hb2); (try clear hk); (try clear hi)))
    repeat (go_quiet (first | (go_at_call 77; (with_reducible refine (wire_reader_fail.calls g s0_0 s0_1 s0_2 s0_3 152 t101 t102 t103 t104 w0 _ ?side1 ?side2 A4.out).mono ?_); (case side1 => exact qq2); (case side2 => repeat (first | (with_reducible first | exact HB.out | apply below_alloc | apply pw_below_drewN | apply below_drew1 | refine below_set ?_ (IsS86.ge HI0.out)) | exact HB.out)); rintro e w6 ⟨rfl, hi, hb, hk⟩; replace HK := Aside0.mk (KeepBut.trans qq3 hk (.inl rfl)); replace HB := Aside0.mk (hb); replace HI0 := Aside0.mk (hi); (try clear hb); (try clear hb2); (try clear hk); (try clear hi))); try go_wp2_with (first | (go_at_call 77; (with_reducible refine (wire_reader_fail.calls g s0_0 s0_1 s0_2 s0_3 152 t101 t102 t103 t104 w0 _ ?side1 ?side2 A4.out).mono ?_); (case side1 => exact qq2); (case side2 => repeat (first | (with_reducible first | exact HB.out | apply below_alloc | apply pw_below_drewN | apply below_drew1 | refine below_set ?_ (IsS86.ge HI0.out)) | exact HB.out)); rintro e w6 ⟨rfl, hi, hb, hk⟩; replace HK := Aside0.mk (KeepBut.trans qq3 hk (.inl rfl)); replace HB := Aside0.mk (hb); replace HI0 := Aside0.mk (hi); (try clear hb); (try clear hb2); (try clear hk); (try clear hi))))
    go_ret
    exact ⟨qq5, qq2, by repeat (first | (with_reducible first | exact HB.out | apply below_alloc | apply pw_below_drewN | apply below_drew1 | refine below_set ?_ (IsS86.ge HI0.out)) | exact HB.out), qq3⟩
  rw [if_neg c3] at H
  have c3b0 : decide ((s0_0.size : Int) ≤ s0_1) = false := decide_eq_false c3
  clear c3
  by_cases c7 : 0 ≤ s0_1
  rotate_left
  · rw [if_neg c7] at H
    exact absurd H (by simp)
  rw [if_pos c7] at H
  have c7b0 : decide (0 ≤ s0_1) = true := decide_eq_true c7
  clear c7
  by_cases c8 : s0_1 < (s0_0.size : Int)
  rotate_left
  · rw [if_neg c8] at H
    exact absurd H (by simp)
  rw [if_pos c8] at H
  have c8b0 : decide (s0_1 < (s0_0.size : Int)) = true := decide_eq_true c8
  clear c8
  by_cases c10 : (wrap64 (bt s0_0 s0_1)) < 128
  · rw [if_pos c10] at H
    have c10b0 : decide ((wrap64 (bt s0_0 s0_1)) < 128) = true := decide_eq_true c10
    clear c10
    by_cases c11 : s0_2 = 0
    rotate_left
    · rw [if_neg c11] at H
      have c11b0 : (s0_2 == 0) = false := beq_eq_false_iff_ne.mpr c11
      have c11b1 : (s0_2 != 0) = true := bne_iff_ne.mpr c11
      simp only [Option.some.injEq, Prod.mk.injEq] at H
      obtain ⟨rfl, rfl, rfl, rfl, rfl⟩ := H
      obtain ⟨HGz16, hgz16⟩ := HI0.out
      have hcz16_0 := cellS86_0 HGz16
      have hcz16_1 := cellS86_1 HGz16
      have hcz16_2 := cellS86_2 HGz16
      have hcz16_3 := cellS86_3 HGz16
      have hfz16_0 := blk_frozen HGz16 0
      have hfz16_1 := blk_frozen HGz16 1
      have hfz16_2 := blk_frozen HGz16 2
      have hfz16_3 := blk_frozen HGz16 3
      clear HGz16 hgz16
      have p9 : 0 ≤ (s0_1 : Int) := of_decide_eq_true qq4
      have q9 : s0_1 < (s0_0.size : Int) := of_decide_eq_true qq4
      have hx9 := bt_at s0_0 s0_1
      replace p9 := eq_true p9
      replace q9 := eq_true q9
      go_enter Try.func71, Try.ntmps71
      go_wp2
      repeat (go_quiet (fail); try go_wp2)
      go_ret
      exact ⟨qq5, qq2, by repeat (first | (with_reducible first | exact HB.out | apply below_alloc | apply pw_below_drewN | apply below_drew1 | refine below_set ?_ (IsS86.ge HI0.out)) | exact HB.out), qq3⟩
    rw [if_pos c11] at H
    have c11b0 : (s0_2 == 0) = true := beq_iff_eq.mpr c11
    have c11b1 : (s0_2 != 0) = false := bne_eq_false_iff_eq.mpr c11
    clear c11
    replace H := Option.bind_eq_some_iff.mp H
    obtain ⟨⟨t105, t106, t107, t108⟩, A120, H⟩ := H
    try dsimp -simprocs only at H
    have A12 := Aside0.mk A120
    clear A120
    simp only [Option.some.injEq, Prod.mk.injEq] at H
    obtain ⟨rfl, rfl, rfl, rfl, rfl⟩ := H
    obtain ⟨HGz13, hgz13⟩ := HI0.out
    have hcz13_0 := cellS86_0 HGz13
    have hcz13_1 := cellS86_1 HGz13
    have hcz13_2 := cellS86_2 HGz13
    have hcz13_3 := cellS86_3 HGz13
    have hfz13_0 := blk_frozen HGz13 0
    have hfz13_1 := blk_frozen HGz13 1
    have hfz13_2 := blk_frozen HGz13 2
    have hfz13_3 := blk_frozen HGz13 3
    clear HGz13 hgz13
    have p9 : 0 ≤ (s0_1 : Int) := of_decide_eq_true qq4
    have q9 : s0_1 < (s0_0.size : Int) := of_decide_eq_true qq4
    have hx9 := bt_at s0_0 s0_1
    replace p9 := eq_true p9
    replace q9 := eq_true q9
    go_enter Try.func71, Try.ntmps71
    go_wp2_with (first | (go_at_call 77; (with_reducible refine (wire_reader_fail.calls g s0_0 s0_1 s0_2 s0_3 151 t105 t106 t107 t108 w0 _ ?side1 ?side2 A12.out).mono ?_); (case side1 => exact qq2); (case side2 => repeat (first | (with_reducible first | exact HB.out | apply below_alloc | apply pw_below_drewN | apply below_drew1 | refine below_set ?_ (IsS86.ge HI0.out)) | exact HB.out)); rintro e w14 ⟨rfl, hi, hb, hk⟩; replace HK := Aside0.mk (KeepBut.trans qq3 hk (.inl rfl)); replace HB := Aside0.mk (hb); replace HI0 := Aside0.mk (hi); (try clear hb); (try clear hb2); (try clear hk); (try clear hi); obtain ⟨HGz15, hgz15⟩ := HI0.out; have hcz15_0 := cellS86_0 HGz15; have hcz15_1 := cellS86_1 HGz15; have hcz15_2 := cellS86_2 HGz15; have hcz15_3 := cellS86_3 HGz15; have hfz15_0 := blk_frozen HGz15 0; have hfz15_1 := blk_frozen HGz15 1; have hfz15_2 := blk_frozen HGz15 2; have hfz15_3 := blk_frozen HGz15 3; clear HGz15 hgz15))
    repeat (go_quiet (first | (go_at_call 77; (with_reducible refine (wire_reader_fail.calls g s0_0 s0_1 s0_2 s0_3 151 t105 t106 t107 t108 w0 _ ?side1 ?side2 A12.out).mono ?_); (case side1 => exact qq2); (case side2 => repeat (first | (with_reducible first | exact HB.out | apply below_alloc | apply pw_below_drewN | apply below_drew1 | refine below_set ?_ (IsS86.ge HI0.out)) | exact HB.out)); rintro e w14 ⟨rfl, hi, hb, hk⟩; replace HK := Aside0.mk (KeepBut.trans qq3 hk (.inl rfl)); replace HB := Aside0.mk (hb); replace HI0 := Aside0.mk (hi); (try clear hb); (try clear hb2); (try clear hk); (try clear hi); obtain ⟨HGz15, hgz15⟩ := HI0.out; have hcz15_0 := cellS86_0 HGz15; have hcz15_1 := cellS86_1 HGz15; have hcz15_2 := cellS86_2 HGz15; have hcz15_3 := cellS86_3 HGz15; have hfz15_0 := blk_frozen HGz15 0; have hfz15_1 := blk_frozen HGz15 1; have hfz15_2 := blk_frozen HGz15 2; have hfz15_3 := blk_frozen HGz15 3; clear HGz15 hgz15)); try go_wp2_with (first | (go_at_call 77; (with_reducible refine (wire_reader_fail.calls g s0_0 s0_1 s0_2 s0_3 151 t105 t106 t107 t108 w0 _ ?side1 ?side2 A12.out).mono ?_); (case side1 => exact qq2); (case side2 => repeat (first | (with_reducible first | exact HB.out | apply below_alloc | apply pw_below_drewN | apply below_drew1 | refine below_set ?_ (IsS86.ge HI0.out)) | exact HB.out)); rintro e w14 ⟨rfl, hi, hb, hk⟩; replace HK := Aside0.mk (KeepBut.trans qq3 hk (.inl rfl)); replace HB := Aside0.mk (hb); replace HI0 := Aside0.mk (hi); (try clear hb); (try clear hb2); (try clear hk); (try clear hi); obtain ⟨HGz15, hgz15⟩ := HI0.out; have hcz15_0 := cellS86_0 HGz15; have hcz15_1 := cellS86_1 HGz15; have hcz15_2 := cellS86_2 HGz15; have hcz15_3 := cellS86_3 HGz15; have hfz15_0 := blk_frozen HGz15 0; have hfz15_1 := blk_frozen HGz15 1; have hfz15_2 := blk_frozen HGz15 2; have hfz15_3 := blk_frozen HGz15 3; clear HGz15 hgz15)))
    go_ret
    exact ⟨qq5, qq2, by repeat (first | (with_reducible first | exact HB.out | apply below_alloc | apply pw_below_drewN | apply below_drew1 | refine below_set ?_ (IsS86.ge HI0.out)) | exact HB.out), qq3⟩
  rw [if_neg c10] at H
  have c10b0 : decide ((wrap64 (bt s0_0 s0_1)) < 128) = false := decide_eq_false c10
  clear c10
  by_cases c17 : (wrap64 (bt s0_0 s0_1)) > 240
  rotate_left
  · rw [if_neg c17] at H
    have c17b0 : decide (240 < (wrap64 (bt s0_0 s0_1))) = false := decide_eq_false c17
    clear c17
    simp only [Option.some.injEq, Prod.mk.injEq] at H
    obtain ⟨rfl, rfl, rfl, rfl, rfl⟩ := H
    obtain ⟨HGz26, hgz26⟩ := HI0.out
    have hcz26_0 := cellS86_0 HGz26
    have hcz26_1 := cellS86_1 HGz26
    have hcz26_2 := cellS86_2 HGz26
    have hcz26_3 := cellS86_3 HGz26
    have hfz26_0 := blk_frozen HGz26 0
    have hfz26_1 := blk_frozen HGz26 1
    have hfz26_2 := blk_frozen HGz26 2
    have hfz26_3 := blk_frozen HGz26 3
    clear HGz26 hgz26
    have p9 : 0 ≤ (s0_1 : Int) := of_decide_eq_true qq4
    have q9 : s0_1 < (s0_0.size : Int) := of_decide_eq_true qq4
    have hx9 := bt_at s0_0 s0_1
    replace p9 := eq_true p9
    replace q9 := eq_true q9
    go_enter Try.func71, Try.ntmps71
    go_wp2
    repeat (go_quiet (fail); try go_wp2)
    go_ret
    exact ⟨qq5, qq2, by repeat (first | (with_reducible first | exact HB.out | apply below_alloc | apply pw_below_drewN | apply below_drew1 | refine below_set ?_ (IsS86.ge HI0.out)) | exact HB.out), qq3⟩
  rw [if_pos c17] at H
  have c17b0 : decide (240 < (wrap64 (bt s0_0 s0_1))) = true := decide_eq_true c17
  clear c17
  by_cases c18 : (wrap64 (bt s0_0 s0_1)) = 247
  · rw [if_pos c18] at H
    have c18b0 : ((wrap64 (bt s0_0 s0_1)) == 247) = true := beq_iff_eq.mpr c18
    have c18b1 : ((wrap64 (bt s0_0 s0_1)) != 247) = false := bne_eq_false_iff_eq.mpr c18
    clear c18
    simp only [Option.some.injEq, Prod.mk.injEq] at H
    obtain ⟨rfl, rfl, rfl, rfl, rfl⟩ := H
    obtain ⟨HGz19, hgz19⟩ := HI0.out
    have hcz19_0 := cellS86_0 HGz19
    have hcz19_1 := cellS86_1 HGz19
    have hcz19_2 := cellS86_2 HGz19
    have hcz19_3 := cellS86_3 HGz19
    have hfz19_0 := blk_frozen HGz19 0
    have hfz19_1 := blk_frozen HGz19 1
    have hfz19_2 := blk_frozen HGz19 2
    have hfz19_3 := blk_frozen HGz19 3
    clear HGz19 hgz19
    have p9 : 0 ≤ (s0_1 : Int) := of_decide_eq_true qq4
    have q9 : s0_1 < (s0_0.size : Int) := of_decide_eq_true qq4
    have hx9 := bt_at s0_0 s0_1
    replace p9 := eq_true p9
    replace q9 := eq_true q9
    go_enter Try.func71, Try.ntmps71
    go_wp2
    repeat (go_quiet (fail); try go_wp2)
    go_ret
    exact ⟨qq5, qq2, by repeat (first | (with_reducible first | exact HB.out | apply below_alloc | apply pw_below_drewN | apply below_drew1 | refine below_set ?_ (IsS86.ge HI0.out)) | exact HB.out), qq3⟩
  rw [if_neg c18] at H
  have c18b0 : ((wrap64 (bt s0_0 s0_1)) == 247) = false := beq_eq_false_iff_ne.mpr c18
  have c18b1 : ((wrap64 (bt s0_0 s0_1)) != 247) = true := bne_iff_ne.mpr c18
  by_cases c20 : (wrap64 (bt s0_0 s0_1)) = 255
  · rw [if_pos c20] at H
    have c20b0 : ((wrap64 (bt s0_0 s0_1)) == 255) = true := beq_iff_eq.mpr c20
    have c20b1 : ((wrap64 (bt s0_0 s0_1)) != 255) = false := bne_eq_false_iff_eq.mpr c20
    clear c20
    simp only [Option.some.injEq, Prod.mk.injEq] at H
    obtain ⟨rfl, rfl, rfl, rfl, rfl⟩ := H
    obtain ⟨HGz21, hgz21⟩ := HI0.out
    have hcz21_0 := cellS86_0 HGz21
    have hcz21_1 := cellS86_1 HGz21
    have hcz21_2 := cellS86_2 HGz21
    have hcz21_3 := cellS86_3 HGz21
    have hfz21_0 := blk_frozen HGz21 0
    have hfz21_1 := blk_frozen HGz21 1
    have hfz21_2 := blk_frozen HGz21 2
    have hfz21_3 := blk_frozen HGz21 3
    clear HGz21 hgz21
    have p9 : 0 ≤ (s0_1 : Int) := of_decide_eq_true qq4
    have q9 : s0_1 < (s0_0.size : Int) := of_decide_eq_true qq4
    have hx9 := bt_at s0_0 s0_1
    replace p9 := eq_true p9
    replace q9 := eq_true q9
    go_enter Try.func71, Try.ntmps71
    go_wp2
    repeat (go_quiet (fail); try go_wp2)
    go_ret
    exact ⟨qq5, qq2, by repeat (first | (with_reducible first | exact HB.out | apply below_alloc | apply pw_below_drewN | apply below_drew1 | refine below_set ?_ (IsS86.ge HI0.out)) | exact HB.out), qq3⟩
  rw [if_neg c20] at H
  have c20b0 : ((wrap64 (bt s0_0 s0_1)) == 255) = false := beq_eq_false_iff_ne.mpr c20
  have c20b1 : ((wrap64 (bt s0_0 s0_1)) != 255) = true := bne_iff_ne.mpr c20
  replace H := Option.bind_eq_some_iff.mp H
  obtain ⟨⟨t109, t110, t111, t112⟩, A220, H⟩ := H
  try dsimp -simprocs only at H
  have A22 := Aside0.mk A220
  clear A220
  simp only [Option.some.injEq, Prod.mk.injEq] at H
  obtain ⟨rfl, rfl, rfl, rfl, rfl⟩ := H
  obtain ⟨HGz23, hgz23⟩ := HI0.out
  have hcz23_0 := cellS86_0 HGz23
  have hcz23_1 := cellS86_1 HGz23
  have hcz23_2 := cellS86_2 HGz23
  have hcz23_3 := cellS86_3 HGz23
  have hfz23_0 := blk_frozen HGz23 0
  have hfz23_1 := blk_frozen HGz23 1
  have hfz23_2 := blk_frozen HGz23 2
  have hfz23_3 := blk_frozen HGz23 3
  clear HGz23 hgz23
  have p9 : 0 ≤ (s0_1 : Int) := of_decide_eq_true qq4
  have q9 : s0_1 < (s0_0.size : Int) := of_decide_eq_true qq4
  have hx9 := bt_at s0_0 s0_1
  replace p9 := eq_true p9
  replace q9 := eq_true q9
  go_enter Try.func71, Try.ntmps71
  go_wp2_with (first | (go_at_call 77; (with_reducible refine (wire_reader_fail.calls g s0_0 s0_1 s0_2 s0_3 151 t109 t110 t111 t112 w0 _ ?side1 ?side2 A22.out).mono ?_); (case side1 => exact qq2); (case side2 => repeat (first | (with_reducible first | exact HB.out | apply below_alloc | apply pw_below_drewN | apply below_drew1 | refine below_set ?_ (IsS86.ge HI0.out)) | exact HB.out)); rintro e w24 ⟨rfl, hi, hb, hk⟩; replace HK := Aside0.mk (KeepBut.trans qq3 hk (.inl rfl)); replace HB := Aside0.mk (hb); replace HI0 := Aside0.mk (hi); (try clear hb); (try clear hb2); (try clear hk); (try clear hi); obtain ⟨HGz25, hgz25⟩ := HI0.out; have hcz25_0 := cellS86_0 HGz25; have hcz25_1 := cellS86_1 HGz25; have hcz25_2 := cellS86_2 HGz25; have hcz25_3 := cellS86_3 HGz25; have hfz25_0 := blk_frozen HGz25 0; have hfz25_1 := blk_frozen HGz25 1; have hfz25_2 := blk_frozen HGz25 2; have hfz25_3 := blk_frozen HGz25 3; clear HGz25 hgz25))
  repeat (go_quiet (first | (go_at_call 77; (with_reducible refine (wire_reader_fail.calls g s0_0 s0_1 s0_2 s0_3 151 t109 t110 t111 t112 w0 _ ?side1 ?side2 A22.out).mono ?_); (case side1 => exact qq2); (case side2 => repeat (first | (with_reducible first | exact HB.out | apply below_alloc | apply pw_below_drewN | apply below_drew1 | refine below_set ?_ (IsS86.ge HI0.out)) | exact HB.out)); rintro e w24 ⟨rfl, hi, hb, hk⟩; replace HK := Aside0.mk (KeepBut.trans qq3 hk (.inl rfl)); replace HB := Aside0.mk (hb); replace HI0 := Aside0.mk (hi); (try clear hb); (try clear hb2); (try clear hk); (try clear hi); obtain ⟨HGz25, hgz25⟩ := HI0.out; have hcz25_0 := cellS86_0 HGz25; have hcz25_1 := cellS86_1 HGz25; have hcz25_2 := cellS86_2 HGz25; have hcz25_3 := cellS86_3 HGz25; have hfz25_0 := blk_frozen HGz25 0; have hfz25_1 := blk_frozen HGz25 1; have hfz25_2 := blk_frozen HGz25 2; have hfz25_3 := blk_frozen HGz25 3; clear HGz25 hgz25)); try go_wp2_with (first | (go_at_call 77; (with_reducible refine (wire_reader_fail.calls g s0_0 s0_1 s0_2 s0_3 151 t109 t110 t111 t112 w0 _ ?side1 ?side2 A22.out).mono ?_); (case side1 => exact qq2); (case side2 => repeat (first | (with_reducible first | exact HB.out | apply below_alloc | apply pw_below_drewN | apply below_drew1 | refine below_set ?_ (IsS86.ge HI0.out)) | exact HB.out)); rintro e w24 ⟨rfl, hi, hb, hk⟩; replace HK := Aside0.mk (KeepBut.trans qq3 hk (.inl rfl)); replace HB := Aside0.mk (hb); replace HI0 := Aside0.mk (hi); (try clear hb); (try clear hb2); (try clear hk); (try clear hi); obtain ⟨HGz25, hgz25⟩ := HI0.out; have hcz25_0 := cellS86_0 HGz25; have hcz25_1 := cellS86_1 HGz25; have hcz25_2 := cellS86_2 HGz25; have hcz25_3 := cellS86_3 HGz25; have hfz25_0 := blk_frozen HGz25 0; have hfz25_1 := blk_frozen HGz25 1; have hfz25_2 := blk_frozen HGz25 2; have hfz25_3 := blk_frozen HGz25 3; clear HGz25 hgz25)))
  go_ret
  exact ⟨qq5, qq2, by repeat (first | (with_reducible first | exact HB.out | apply below_alloc | apply pw_below_drewN | apply below_drew1 | refine below_set ?_ (IsS86.ge HI0.out)) | exact HB.out), qq3⟩
def wire_reader_data.f (s0_0 : ByteArray) (s0_1 : Int) (s0_2 : Int) (s0_3 : Int) : Option (Int × ByteArray × Int × Int × Int) := if s0_3 = 0 then (if s0_1 ≥ (s0_0.size : Int) then ((wire_reader_fail.f s0_0 s0_1 s0_2 s0_3 152).bind fun bt101 => (some (0, bt101.1, bt101.2.1, bt101.2.2.1, bt101.2.2.2))) else (if 0 ≤ s0_1 then (if s0_1 < (s0_0.size : Int) then (if (wrap64 (bt s0_0 s0_1)) ≥ 128 then ((wire_reader_fail.f s0_0 s0_1 s0_2 s0_3 151).bind fun bt105 => (some (0, bt105.1, bt105.2.1, bt105.2.2.1, bt105.2.2.2))) else (some (wrap64 (bt s0_0 s0_1), s0_0, wrap64 (s0_1 + 1), s0_2, s0_3))) else (none)) else (none))) else (some (0, s0_0, s0_1, s0_2, s0_3))
set_option maxHeartbeats 8000000 in
set_option maxRecDepth 100000 in
theorem wire_reader_data.calls (g : Nat) (s0_0 : ByteArray) (s0_1 : Int) (s0_2 : Int) (s0_3 : Int) (r1 : Int) (r2 : ByteArray) (r3 : Int) (r4 : Int) (r5 : Int) (w0 w : World) (hI : IsS86 w0 w g s0_0 s0_1 s0_2 s0_3) (hB : Below w0.heap.size w0 w) (h : wire_reader_data.f s0_0 s0_1 s0_2 s0_3 = some (r1, r2, r3, r4, r5)) :
    Calls Try.prog 72 #[.pointer (some ⟨g, 0, none⟩)] w fun e w' => e = .returned (.int .i64 r1) ∧ IsS86 w0 w' g r2 r3 r4 r5 ∧ Below w0.heap.size w0 w' ∧ KeepBut w w' g none := by
  have HI0 := Aside0.mk hI
  have HK := Aside0.mk (KeepBut.refl w g none)
  have HL := Aside0.mk hB.size
  clear hI
  have HW0 := Aside0.mk hB.size
  have HB := Aside0.mk hB
  clear hB
  have H := h
  unfold wire_reader_data.f at H
  clear h
  by_cases c2 : s0_3 = 0
  rotate_left
  · rw [if_neg c2] at H
    have c2b0 : (s0_3 == 0) = false := beq_eq_false_iff_ne.mpr c2
    have c2b1 : (s0_3 != 0) = true := bne_iff_ne.mpr c2
    simp only [Option.some.injEq, Prod.mk.injEq] at H
    obtain ⟨rfl, rfl, rfl, rfl, rfl⟩ := H
    obtain ⟨HGz15, hgz15⟩ := HI0.out
    have hcz15_0 := cellS86_0 HGz15
    have hcz15_1 := cellS86_1 HGz15
    have hcz15_2 := cellS86_2 HGz15
    have hcz15_3 := cellS86_3 HGz15
    have hfz15_0 := blk_frozen HGz15 0
    have hfz15_1 := blk_frozen HGz15 1
    have hfz15_2 := blk_frozen HGz15 2
    have hfz15_3 := blk_frozen HGz15 3
    clear HGz15 hgz15
    go_enter Try.func72, Try.ntmps72
    go_wp2
    repeat (go_quiet (fail); try go_wp2)
    go_ret
    exact ⟨qq5, qq2, by repeat (first | (with_reducible first | exact HB.out | apply below_alloc | apply pw_below_drewN | apply below_drew1 | refine below_set ?_ (IsS86.ge HI0.out)) | exact HB.out), qq3⟩
  rw [if_pos c2] at H
  have c2b0 : (s0_3 == 0) = true := beq_iff_eq.mpr c2
  have c2b1 : (s0_3 != 0) = false := bne_eq_false_iff_eq.mpr c2
  clear c2
  by_cases c3 : s0_1 ≥ (s0_0.size : Int)
  · rw [if_pos c3] at H
    have c3b0 : decide ((s0_0.size : Int) ≤ s0_1) = true := decide_eq_true c3
    clear c3
    replace H := Option.bind_eq_some_iff.mp H
    obtain ⟨⟨t101, t102, t103, t104⟩, A40, H⟩ := H
    try dsimp -simprocs only at H
    have A4 := Aside0.mk A40
    clear A40
    simp only [Option.some.injEq, Prod.mk.injEq] at H
    obtain ⟨rfl, rfl, rfl, rfl, rfl⟩ := H
    obtain ⟨HGz5, hgz5⟩ := HI0.out
    have hcz5_0 := cellS86_0 HGz5
    have hcz5_1 := cellS86_1 HGz5
    have hcz5_2 := cellS86_2 HGz5
    have hcz5_3 := cellS86_3 HGz5
    have hfz5_0 := blk_frozen HGz5 0
    have hfz5_1 := blk_frozen HGz5 1
    have hfz5_2 := blk_frozen HGz5 2
    have hfz5_3 := blk_frozen HGz5 3
    clear HGz5 hgz5
    go_enter Try.func72, Try.ntmps72
    go_wp2_with (first | (go_at_call 77; (with_reducible refine (wire_reader_fail.calls g s0_0 s0_1 s0_2 s0_3 152 t101 t102 t103 t104 w0 _ ?side1 ?side2 A4.out).mono ?_); (case side1 => exact qq2); (case side2 => repeat (first | (with_reducible first | exact HB.out | apply below_alloc | apply pw_below_drewN | apply below_drew1 | refine below_set ?_ (IsS86.ge HI0.out)) | exact HB.out)); rintro e w6 ⟨rfl, hi, hb, hk⟩; replace HK := Aside0.mk (KeepBut.trans qq3 hk (.inl rfl)); replace HB := Aside0.mk (hb); replace HI0 := Aside0.mk (hi); (try clear hb); (try clear hb2); (try clear hk); (try clear hi)))
    repeat (go_quiet (first | (go_at_call 77; (with_reducible refine (wire_reader_fail.calls g s0_0 s0_1 s0_2 s0_3 152 t101 t102 t103 t104 w0 _ ?side1 ?side2 A4.out).mono ?_); (case side1 => exact qq2); (case side2 => repeat (first | (with_reducible first | exact HB.out | apply below_alloc | apply pw_below_drewN | apply below_drew1 | refine below_set ?_ (IsS86.ge HI0.out)) | exact HB.out)); rintro e w6 ⟨rfl, hi, hb, hk⟩; replace HK := Aside0.mk (KeepBut.trans qq3 hk (.inl rfl)); replace HB := Aside0.mk (hb); replace HI0 := Aside0.mk (hi); (try clear hb); (try clear hb2); (try clear hk); (try clear hi))); try go_wp2_with (first | (go_at_call 77; (with_reducible refine (wire_reader_fail.calls g s0_0 s0_1 s0_2 s0_3 152 t101 t102 t103 t104 w0 _ ?side1 ?side2 A4.out).mono ?_); (case side1 => exact qq2); (case side2 => repeat (first | (with_reducible first | exact HB.out | apply below_alloc | apply pw_below_drewN | apply below_drew1 | refine below_set ?_ (IsS86.ge HI0.out)) | exact HB.out)); rintro e w6 ⟨rfl, hi, hb, hk⟩; replace HK := Aside0.mk (KeepBut.trans qq3 hk (.inl rfl)); replace HB := Aside0.mk (hb); replace HI0 := Aside0.mk (hi); (try clear hb); (try clear hb2); (try clear hk); (try clear hi))))
    go_ret
    exact ⟨qq5, qq2, by repeat (first | (with_reducible first | exact HB.out | apply below_alloc | apply pw_below_drewN | apply below_drew1 | refine below_set ?_ (IsS86.ge HI0.out)) | exact HB.out), qq3⟩
  rw [if_neg c3] at H
  have c3b0 : decide ((s0_0.size : Int) ≤ s0_1) = false := decide_eq_false c3
  clear c3
  by_cases c7 : 0 ≤ s0_1
  rotate_left
  · rw [if_neg c7] at H
    exact absurd H (by simp)
  rw [if_pos c7] at H
  have c7b0 : decide (0 ≤ s0_1) = true := decide_eq_true c7
  clear c7
  by_cases c8 : s0_1 < (s0_0.size : Int)
  rotate_left
  · rw [if_neg c8] at H
    exact absurd H (by simp)
  rw [if_pos c8] at H
  have c8b0 : decide (s0_1 < (s0_0.size : Int)) = true := decide_eq_true c8
  clear c8
  by_cases c10 : (wrap64 (bt s0_0 s0_1)) ≥ 128
  rotate_left
  · rw [if_neg c10] at H
    have c10b0 : decide (128 ≤ (wrap64 (bt s0_0 s0_1))) = false := decide_eq_false c10
    clear c10
    simp only [Option.some.injEq, Prod.mk.injEq] at H
    obtain ⟨rfl, rfl, rfl, rfl, rfl⟩ := H
    obtain ⟨HGz14, hgz14⟩ := HI0.out
    have hcz14_0 := cellS86_0 HGz14
    have hcz14_1 := cellS86_1 HGz14
    have hcz14_2 := cellS86_2 HGz14
    have hcz14_3 := cellS86_3 HGz14
    have hfz14_0 := blk_frozen HGz14 0
    have hfz14_1 := blk_frozen HGz14 1
    have hfz14_2 := blk_frozen HGz14 2
    have hfz14_3 := blk_frozen HGz14 3
    clear HGz14 hgz14
    have p9 : 0 ≤ (s0_1 : Int) := of_decide_eq_true qq4
    have q9 : s0_1 < (s0_0.size : Int) := of_decide_eq_true qq4
    have hx9 := bt_at s0_0 s0_1
    replace p9 := eq_true p9
    replace q9 := eq_true q9
    go_enter Try.func72, Try.ntmps72
    go_wp2
    repeat (go_quiet (fail); try go_wp2)
    go_ret
    exact ⟨qq5, qq2, by repeat (first | (with_reducible first | exact HB.out | apply below_alloc | apply pw_below_drewN | apply below_drew1 | refine below_set ?_ (IsS86.ge HI0.out)) | exact HB.out), qq3⟩
  rw [if_pos c10] at H
  have c10b0 : decide (128 ≤ (wrap64 (bt s0_0 s0_1))) = true := decide_eq_true c10
  clear c10
  replace H := Option.bind_eq_some_iff.mp H
  obtain ⟨⟨t105, t106, t107, t108⟩, A110, H⟩ := H
  try dsimp -simprocs only at H
  have A11 := Aside0.mk A110
  clear A110
  simp only [Option.some.injEq, Prod.mk.injEq] at H
  obtain ⟨rfl, rfl, rfl, rfl, rfl⟩ := H
  obtain ⟨HGz12, hgz12⟩ := HI0.out
  have hcz12_0 := cellS86_0 HGz12
  have hcz12_1 := cellS86_1 HGz12
  have hcz12_2 := cellS86_2 HGz12
  have hcz12_3 := cellS86_3 HGz12
  have hfz12_0 := blk_frozen HGz12 0
  have hfz12_1 := blk_frozen HGz12 1
  have hfz12_2 := blk_frozen HGz12 2
  have hfz12_3 := blk_frozen HGz12 3
  clear HGz12 hgz12
  have p9 : 0 ≤ (s0_1 : Int) := of_decide_eq_true qq4
  have q9 : s0_1 < (s0_0.size : Int) := of_decide_eq_true qq4
  have hx9 := bt_at s0_0 s0_1
  replace p9 := eq_true p9
  replace q9 := eq_true q9
  go_enter Try.func72, Try.ntmps72
  go_wp2_with (first | (go_at_call 77; (with_reducible refine (wire_reader_fail.calls g s0_0 s0_1 s0_2 s0_3 151 t105 t106 t107 t108 w0 _ ?side1 ?side2 A11.out).mono ?_); (case side1 => exact qq2); (case side2 => repeat (first | (with_reducible first | exact HB.out | apply below_alloc | apply pw_below_drewN | apply below_drew1 | refine below_set ?_ (IsS86.ge HI0.out)) | exact HB.out)); rintro e w13 ⟨rfl, hi, hb, hk⟩; replace HK := Aside0.mk (KeepBut.trans qq3 hk (.inl rfl)); replace HB := Aside0.mk (hb); replace HI0 := Aside0.mk (hi); (try clear hb); (try clear hb2); (try clear hk); (try clear hi)))
  repeat (go_quiet (first | (go_at_call 77; (with_reducible refine (wire_reader_fail.calls g s0_0 s0_1 s0_2 s0_3 151 t105 t106 t107 t108 w0 _ ?side1 ?side2 A11.out).mono ?_); (case side1 => exact qq2); (case side2 => repeat (first | (with_reducible first | exact HB.out | apply below_alloc | apply pw_below_drewN | apply below_drew1 | refine below_set ?_ (IsS86.ge HI0.out)) | exact HB.out)); rintro e w13 ⟨rfl, hi, hb, hk⟩; replace HK := Aside0.mk (KeepBut.trans qq3 hk (.inl rfl)); replace HB := Aside0.mk (hb); replace HI0 := Aside0.mk (hi); (try clear hb); (try clear hb2); (try clear hk); (try clear hi))); try go_wp2_with (first | (go_at_call 77; (with_reducible refine (wire_reader_fail.calls g s0_0 s0_1 s0_2 s0_3 151 t105 t106 t107 t108 w0 _ ?side1 ?side2 A11.out).mono ?_); (case side1 => exact qq2); (case side2 => repeat (first | (with_reducible first | exact HB.out | apply below_alloc | apply pw_below_drewN | apply below_drew1 | refine below_set ?_ (IsS86.ge HI0.out)) | exact HB.out)); rintro e w13 ⟨rfl, hi, hb, hk⟩; replace HK := Aside0.mk (KeepBut.trans qq3 hk (.inl rfl)); replace HB := Aside0.mk (hb); replace HI0 := Aside0.mk (hi); (try clear hb); (try clear hb2); (try clear hk); (try clear hi))))
  go_ret
  exact ⟨qq5, qq2, by repeat (first | (with_reducible first | exact HB.out | apply below_alloc | apply pw_below_drewN | apply below_drew1 | refine below_set ?_ (IsS86.ge HI0.out)) | exact HB.out), qq3⟩
def wire_reader_bytes.f (k : Nat) (s0_0 : ByteArray) (s0_1 : Int) (s0_2 : Int) (s0_3 : Int) : Option (ByteArray × ByteArray × Int × Int × Int) := (wire_reader_number.f k s0_0 s0_1 s0_2 s0_3).bind fun bt101 => (if bt101.2.2.2.2 = 0 then (if bt101.1 > 100000 then ((wire_reader_fail.f bt101.2.1 bt101.2.2.1 bt101.2.2.2.1 bt101.2.2.2.2 151).bind fun bt106 => (some ((⟨#[]⟩ : ByteArray), bt106.1, bt106.2.1, bt106.2.2.1, bt106.2.2.2))) else (if (wrap64 (bt101.2.2.1 + bt101.1)) > (bt101.2.1.size : Int) then ((wire_reader_fail.f bt101.2.1 bt101.2.2.1 bt101.2.2.2.1 bt101.2.2.2.2 152).bind fun bt110 => (some ((⟨#[]⟩ : ByteArray), bt110.1, bt110.2.1, bt110.2.2.1, bt110.2.2.2))) else (if 0 ≤ bt101.2.2.1 then (if bt101.2.2.1 ≤ (wrap64 (bt101.2.2.1 + bt101.1)) then (if (wrap64 (bt101.2.2.1 + bt101.1)) ≤ (bt101.2.1.size : Int) then (some (bt101.2.1.extract (bt101.2.2.1 : Int).toNat ((wrap64 (bt101.2.2.1 + bt101.1)) : Int).toNat, bt101.2.1, wrap64 (bt101.2.2.1 + bt101.1), bt101.2.2.2.1, bt101.2.2.2.2)) else (none)) else (none)) else (none)))) else (some ((⟨#[]⟩ : ByteArray), bt101.2.1, bt101.2.2.1, bt101.2.2.2.1, bt101.2.2.2.2)))
theorem wire_reader_bytes.mono : ∀ a0 a1 a2 a3 k, LeO (wire_reader_bytes.f k a0 a1 a2 a3) (wire_reader_bytes.f (k + 1) a0 a1 a2 a3) := by
  intro a0 a1 a2 a3 k
  unfold wire_reader_bytes.f
  repeat' first
      | (with_reducible exact wire_reader_number.mono _ _ _ _ _)
      | (with_reducible exact LeO.refl _)
      | (with_reducible exact LeO.none _)
      | (with_reducible refine LeO.ite ?_ ?_)
      | (with_reducible refine LeO.bind ?_ (fun _ => ?_))
      | exact wire_reader_number.mono _ _ _ _ _
      | exact LeO.none _
      | refine LeO.ite ?_ ?_
      | refine LeO.bind ?_ (fun _ => ?_)
set_option maxHeartbeats 8000000 in
set_option maxRecDepth 100000 in
theorem wire_reader_bytes.calls (k : Nat) (g : Nat) (s0_0 : ByteArray) (s0_1 : Int) (s0_2 : Int) (s0_3 : Int) (r1 : ByteArray) (r2 : ByteArray) (r3 : Int) (r4 : Int) (r5 : Int) (w0 w : World) (hI : IsS86 w0 w g s0_0 s0_1 s0_2 s0_3) (hB : Below w0.heap.size w0 w) (h : wire_reader_bytes.f k s0_0 s0_1 s0_2 s0_3 = some (r1, r2, r3, r4, r5)) :
    Calls Try.prog 73 #[.pointer (some ⟨g, 0, none⟩)] w fun e w' => e = .returned (.string r1) ∧ IsS86 w0 w' g r2 r3 r4 r5 ∧ Below w0.heap.size w0 w' ∧ KeepBut w w' g none := by
  have HI0 := Aside0.mk hI
  have HK := Aside0.mk (KeepBut.refl w g none)
  have HL := Aside0.mk hB.size
  clear hI
  have HW0 := Aside0.mk hB.size
  have HB := Aside0.mk hB
  clear hB
  have H := h
  unfold wire_reader_bytes.f at H
  clear h
  replace H := Option.bind_eq_some_iff.mp H
  obtain ⟨⟨t101, t102, t103, t104, t105⟩, A20, H⟩ := H
  try dsimp -simprocs only at H
  have A2 := Aside0.mk A20
  clear A20
  by_cases c3 : t105 = 0
  rotate_left
  · rw [if_neg c3] at H
    have c3b0 : (t105 == 0) = false := beq_eq_false_iff_ne.mpr c3
    have c3b1 : (t105 != 0) = true := bne_iff_ne.mpr c3
    simp only [Option.some.injEq, Prod.mk.injEq] at H
    obtain ⟨rfl, rfl, rfl, rfl, rfl⟩ := H
    go_enter Try.func73, Try.ntmps73
    go_wp2_with (first | (go_at_call 70; (with_reducible refine (wire_reader_number.calls k g s0_0 s0_1 s0_2 s0_3 t101 t102 t103 t104 t105 w0 _ ?side1 ?side2 A2.out).mono ?_); (case side1 => exact qq2); (case side2 => repeat (first | (with_reducible first | exact HB.out | apply below_alloc | apply pw_below_drewN | apply below_drew1 | refine below_set ?_ (IsS86.ge HI0.out)) | exact HB.out)); rintro e w19 ⟨rfl, hi, hb, hk⟩; replace HK := Aside0.mk (KeepBut.trans qq3 hk (.inl rfl)); replace HB := Aside0.mk (hb); replace HI0 := Aside0.mk (hi); (try clear hb); (try clear hb2); (try clear hk); (try clear hi); obtain ⟨HGz20, hgz20⟩ := HI0.out; have hcz20_0 := cellS86_0 HGz20; have hcz20_1 := cellS86_1 HGz20; have hcz20_2 := cellS86_2 HGz20; have hcz20_3 := cellS86_3 HGz20; have hfz20_0 := blk_frozen HGz20 0; have hfz20_1 := blk_frozen HGz20 1; have hfz20_2 := blk_frozen HGz20 2; have hfz20_3 := blk_frozen HGz20 3; clear HGz20 hgz20))
    repeat (go_quiet (first | (go_at_call 70; (with_reducible refine (wire_reader_number.calls k g s0_0 s0_1 s0_2 s0_3 t101 t102 t103 t104 t105 w0 _ ?side1 ?side2 A2.out).mono ?_); (case side1 => exact qq2); (case side2 => repeat (first | (with_reducible first | exact HB.out | apply below_alloc | apply pw_below_drewN | apply below_drew1 | refine below_set ?_ (IsS86.ge HI0.out)) | exact HB.out)); rintro e w19 ⟨rfl, hi, hb, hk⟩; replace HK := Aside0.mk (KeepBut.trans qq3 hk (.inl rfl)); replace HB := Aside0.mk (hb); replace HI0 := Aside0.mk (hi); (try clear hb); (try clear hb2); (try clear hk); (try clear hi); obtain ⟨HGz20, hgz20⟩ := HI0.out; have hcz20_0 := cellS86_0 HGz20; have hcz20_1 := cellS86_1 HGz20; have hcz20_2 := cellS86_2 HGz20; have hcz20_3 := cellS86_3 HGz20; have hfz20_0 := blk_frozen HGz20 0; have hfz20_1 := blk_frozen HGz20 1; have hfz20_2 := blk_frozen HGz20 2; have hfz20_3 := blk_frozen HGz20 3; clear HGz20 hgz20)); try go_wp2_with (first | (go_at_call 70; (with_reducible refine (wire_reader_number.calls k g s0_0 s0_1 s0_2 s0_3 t101 t102 t103 t104 t105 w0 _ ?side1 ?side2 A2.out).mono ?_); (case side1 => exact qq2); (case side2 => repeat (first | (with_reducible first | exact HB.out | apply below_alloc | apply pw_below_drewN | apply below_drew1 | refine below_set ?_ (IsS86.ge HI0.out)) | exact HB.out)); rintro e w19 ⟨rfl, hi, hb, hk⟩; replace HK := Aside0.mk (KeepBut.trans qq3 hk (.inl rfl)); replace HB := Aside0.mk (hb); replace HI0 := Aside0.mk (hi); (try clear hb); (try clear hb2); (try clear hk); (try clear hi); obtain ⟨HGz20, hgz20⟩ := HI0.out; have hcz20_0 := cellS86_0 HGz20; have hcz20_1 := cellS86_1 HGz20; have hcz20_2 := cellS86_2 HGz20; have hcz20_3 := cellS86_3 HGz20; have hfz20_0 := blk_frozen HGz20 0; have hfz20_1 := blk_frozen HGz20 1; have hfz20_2 := blk_frozen HGz20 2; have hfz20_3 := blk_frozen HGz20 3; clear HGz20 hgz20)))
    go_ret
    exact ⟨qq5, qq2, by repeat (first | (with_reducible first | exact HB.out | apply below_alloc | apply pw_below_drewN | apply below_drew1 | refine below_set ?_ (IsS86.ge HI0.out)) | exact HB.out), qq3⟩
  rw [if_pos c3] at H
  have c3b0 : (t105 == 0) = true := beq_iff_eq.mpr c3
  have c3b1 : (t105 != 0) = false := bne_eq_false_iff_eq.mpr c3
  clear c3
  by_cases c4 : t101 > 100000
  · rw [if_pos c4] at H
    have c4b0 : decide (100000 < t101) = true := decide_eq_true c4
    clear c4
    replace H := Option.bind_eq_some_iff.mp H
    obtain ⟨⟨t106, t107, t108, t109⟩, A50, H⟩ := H
    try dsimp -simprocs only at H
    have A5 := Aside0.mk A50
    clear A50
    simp only [Option.some.injEq, Prod.mk.injEq] at H
    obtain ⟨rfl, rfl, rfl, rfl, rfl⟩ := H
    go_enter Try.func73, Try.ntmps73
    go_wp2_with (first | (go_at_call 70; (with_reducible refine (wire_reader_number.calls k g s0_0 s0_1 s0_2 s0_3 t101 t102 t103 t104 t105 w0 _ ?side1 ?side2 A2.out).mono ?_); (case side1 => exact qq2); (case side2 => repeat (first | (with_reducible first | exact HB.out | apply below_alloc | apply pw_below_drewN | apply below_drew1 | refine below_set ?_ (IsS86.ge HI0.out)) | exact HB.out)); rintro e w6 ⟨rfl, hi, hb, hk⟩; replace HK := Aside0.mk (KeepBut.trans qq3 hk (.inl rfl)); replace HB := Aside0.mk (hb); replace HI0 := Aside0.mk (hi); (try clear hb); (try clear hb2); (try clear hk); (try clear hi); obtain ⟨HGz7, hgz7⟩ := HI0.out; have hcz7_0 := cellS86_0 HGz7; have hcz7_1 := cellS86_1 HGz7; have hcz7_2 := cellS86_2 HGz7; have hcz7_3 := cellS86_3 HGz7; have hfz7_0 := blk_frozen HGz7 0; have hfz7_1 := blk_frozen HGz7 1; have hfz7_2 := blk_frozen HGz7 2; have hfz7_3 := blk_frozen HGz7 3; clear HGz7 hgz7) | (go_at_call 77; (with_reducible refine (wire_reader_fail.calls g t102 t103 t104 t105 151 t106 t107 t108 t109 w0 _ ?side1 ?side2 A5.out).mono ?_); (case side1 => exact qq2); (case side2 => repeat (first | (with_reducible first | exact HB.out | apply below_alloc | apply pw_below_drewN | apply below_drew1 | refine below_set ?_ (IsS86.ge HI0.out)) | exact HB.out)); rintro e w8 ⟨rfl, hi, hb, hk⟩; replace HK := Aside0.mk (KeepBut.trans qq3 hk (.inl rfl)); replace HB := Aside0.mk (hb); replace HI0 := Aside0.mk (hi); (try clear hb); (try clear hb2); (try clear hk); (try clear hi)))
    repeat (go_quiet (first | (go_at_call 70; (with_reducible refine (wire_reader_number.calls k g s0_0 s0_1 s0_2 s0_3 t101 t102 t103 t104 t105 w0 _ ?side1 ?side2 A2.out).mono ?_); (case side1 => exact qq2); (case side2 => repeat (first | (with_reducible first | exact HB.out | apply below_alloc | apply pw_below_drewN | apply below_drew1 | refine below_set ?_ (IsS86.ge HI0.out)) | exact HB.out)); rintro e w6 ⟨rfl, hi, hb, hk⟩; replace HK := Aside0.mk (KeepBut.trans qq3 hk (.inl rfl)); replace HB := Aside0.mk (hb); replace HI0 := Aside0.mk (hi); (try clear hb); (try clear hb2); (try clear hk); (try clear hi); obtain ⟨HGz7, hgz7⟩ := HI0.out; have hcz7_0 := cellS86_0 HGz7; have hcz7_1 := cellS86_1 HGz7; have hcz7_2 := cellS86_2 HGz7; have hcz7_3 := cellS86_3 HGz7; have hfz7_0 := blk_frozen HGz7 0; have hfz7_1 := blk_frozen HGz7 1; have hfz7_2 := blk_frozen HGz7 2; have hfz7_3 := blk_frozen HGz7 3; clear HGz7 hgz7) | (go_at_call 77; (with_reducible refine (wire_reader_fail.calls g t102 t103 t104 t105 151 t106 t107 t108 t109 w0 _ ?side1 ?side2 A5.out).mono ?_); (case side1 => exact qq2); (case side2 => repeat (first | (with_reducible first | exact HB.out | apply below_alloc | apply pw_below_drewN | apply below_drew1 | refine below_set ?_ (IsS86.ge HI0.out)) | exact HB.out)); rintro e w8 ⟨rfl, hi, hb, hk⟩; replace HK := Aside0.mk (KeepBut.trans qq3 hk (.inl rfl)); replace HB := Aside0.mk (hb); replace HI0 := Aside0.mk (hi); (try clear hb); (try clear hb2); (try clear hk); (try clear hi))); try go_wp2_with (first | (go_at_call 70; (with_reducible refine (wire_reader_number.calls k g s0_0 s0_1 s0_2 s0_3 t101 t102 t103 t104 t105 w0 _ ?side1 ?side2 A2.out).mono ?_); (case side1 => exact qq2); (case side2 => repeat (first | (with_reducible first | exact HB.out | apply below_alloc | apply pw_below_drewN | apply below_drew1 | refine below_set ?_ (IsS86.ge HI0.out)) | exact HB.out)); rintro e w6 ⟨rfl, hi, hb, hk⟩; replace HK := Aside0.mk (KeepBut.trans qq3 hk (.inl rfl)); replace HB := Aside0.mk (hb); replace HI0 := Aside0.mk (hi); (try clear hb); (try clear hb2); (try clear hk); (try clear hi); obtain ⟨HGz7, hgz7⟩ := HI0.out; have hcz7_0 := cellS86_0 HGz7; have hcz7_1 := cellS86_1 HGz7; have hcz7_2 := cellS86_2 HGz7; have hcz7_3 := cellS86_3 HGz7; have hfz7_0 := blk_frozen HGz7 0; have hfz7_1 := blk_frozen HGz7 1; have hfz7_2 := blk_frozen HGz7 2; have hfz7_3 := blk_frozen HGz7 3; clear HGz7 hgz7) | (go_at_call 77; (with_reducible refine (wire_reader_fail.calls g t102 t103 t104 t105 151 t106 t107 t108 t109 w0 _ ?side1 ?side2 A5.out).mono ?_); (case side1 => exact qq2); (case side2 => repeat (first | (with_reducible first | exact HB.out | apply below_alloc | apply pw_below_drewN | apply below_drew1 | refine below_set ?_ (IsS86.ge HI0.out)) | exact HB.out)); rintro e w8 ⟨rfl, hi, hb, hk⟩; replace HK := Aside0.mk (KeepBut.trans qq3 hk (.inl rfl)); replace HB := Aside0.mk (hb); replace HI0 := Aside0.mk (hi); (try clear hb); (try clear hb2); (try clear hk); (try clear hi))))
    go_ret
    exact ⟨qq5, qq2, by repeat (first | (with_reducible first | exact HB.out | apply below_alloc | apply pw_below_drewN | apply below_drew1 | refine below_set ?_ (IsS86.ge HI0.out)) | exact HB.out), qq3⟩
  rw [if_neg c4] at H
  have c4b0 : decide (100000 < t101) = false := decide_eq_false c4
  clear c4
  by_cases c9 : (wrap64 (t103 + t101)) > (t102.size : Int)
  · rw [if_pos c9] at H
    have c9b0 : decide ((t102.size : Int) < (wrap64 (t103 + t101))) = true := decide_eq_true c9
    clear c9
    replace H := Option.bind_eq_some_iff.mp H
    obtain ⟨⟨t110, t111, t112, t113⟩, A100, H⟩ := H
    try dsimp -simprocs only at H
    have A10 := Aside0.mk A100
    clear A100
    simp only [Option.some.injEq, Prod.mk.injEq] at H
    obtain ⟨rfl, rfl, rfl, rfl, rfl⟩ := H
    go_enter Try.func73, Try.ntmps73
    go_wp2_with (first | (go_at_call 70; (with_reducible refine (wire_reader_number.calls k g s0_0 s0_1 s0_2 s0_3 t101 t102 t103 t104 t105 w0 _ ?side1 ?side2 A2.out).mono ?_); (case side1 => exact qq2); (case side2 => repeat (first | (with_reducible first | exact HB.out | apply below_alloc | apply pw_below_drewN | apply below_drew1 | refine below_set ?_ (IsS86.ge HI0.out)) | exact HB.out)); rintro e w11 ⟨rfl, hi, hb, hk⟩; replace HK := Aside0.mk (KeepBut.trans qq3 hk (.inl rfl)); replace HB := Aside0.mk (hb); replace HI0 := Aside0.mk (hi); (try clear hb); (try clear hb2); (try clear hk); (try clear hi); obtain ⟨HGz12, hgz12⟩ := HI0.out; have hcz12_0 := cellS86_0 HGz12; have hcz12_1 := cellS86_1 HGz12; have hcz12_2 := cellS86_2 HGz12; have hcz12_3 := cellS86_3 HGz12; have hfz12_0 := blk_frozen HGz12 0; have hfz12_1 := blk_frozen HGz12 1; have hfz12_2 := blk_frozen HGz12 2; have hfz12_3 := blk_frozen HGz12 3; clear HGz12 hgz12) | (go_at_call 77; (with_reducible refine (wire_reader_fail.calls g t102 t103 t104 t105 152 t110 t111 t112 t113 w0 _ ?side1 ?side2 A10.out).mono ?_); (case side1 => exact qq2); (case side2 => repeat (first | (with_reducible first | exact HB.out | apply below_alloc | apply pw_below_drewN | apply below_drew1 | refine below_set ?_ (IsS86.ge HI0.out)) | exact HB.out)); rintro e w13 ⟨rfl, hi, hb, hk⟩; replace HK := Aside0.mk (KeepBut.trans qq3 hk (.inl rfl)); replace HB := Aside0.mk (hb); replace HI0 := Aside0.mk (hi); (try clear hb); (try clear hb2); (try clear hk); (try clear hi)))
    repeat (go_quiet (first | (go_at_call 70; (with_reducible refine (wire_reader_number.calls k g s0_0 s0_1 s0_2 s0_3 t101 t102 t103 t104 t105 w0 _ ?side1 ?side2 A2.out).mono ?_); (case side1 => exact qq2); (case side2 => repeat (first | (with_reducible first | exact HB.out | apply below_alloc | apply pw_below_drewN | apply below_drew1 | refine below_set ?_ (IsS86.ge HI0.out)) | exact HB.out)); rintro e w11 ⟨rfl, hi, hb, hk⟩; replace HK := Aside0.mk (KeepBut.trans qq3 hk (.inl rfl)); replace HB := Aside0.mk (hb); replace HI0 := Aside0.mk (hi); (try clear hb); (try clear hb2); (try clear hk); (try clear hi); obtain ⟨HGz12, hgz12⟩ := HI0.out; have hcz12_0 := cellS86_0 HGz12; have hcz12_1 := cellS86_1 HGz12; have hcz12_2 := cellS86_2 HGz12; have hcz12_3 := cellS86_3 HGz12; have hfz12_0 := blk_frozen HGz12 0; have hfz12_1 := blk_frozen HGz12 1; have hfz12_2 := blk_frozen HGz12 2; have hfz12_3 := blk_frozen HGz12 3; clear HGz12 hgz12) | (go_at_call 77; (with_reducible refine (wire_reader_fail.calls g t102 t103 t104 t105 152 t110 t111 t112 t113 w0 _ ?side1 ?side2 A10.out).mono ?_); (case side1 => exact qq2); (case side2 => repeat (first | (with_reducible first | exact HB.out | apply below_alloc | apply pw_below_drewN | apply below_drew1 | refine below_set ?_ (IsS86.ge HI0.out)) | exact HB.out)); rintro e w13 ⟨rfl, hi, hb, hk⟩; replace HK := Aside0.mk (KeepBut.trans qq3 hk (.inl rfl)); replace HB := Aside0.mk (hb); replace HI0 := Aside0.mk (hi); (try clear hb); (try clear hb2); (try clear hk); (try clear hi))); try go_wp2_with (first | (go_at_call 70; (with_reducible refine (wire_reader_number.calls k g s0_0 s0_1 s0_2 s0_3 t101 t102 t103 t104 t105 w0 _ ?side1 ?side2 A2.out).mono ?_); (case side1 => exact qq2); (case side2 => repeat (first | (with_reducible first | exact HB.out | apply below_alloc | apply pw_below_drewN | apply below_drew1 | refine below_set ?_ (IsS86.ge HI0.out)) | exact HB.out)); rintro e w11 ⟨rfl, hi, hb, hk⟩; replace HK := Aside0.mk (KeepBut.trans qq3 hk (.inl rfl)); replace HB := Aside0.mk (hb); replace HI0 := Aside0.mk (hi); (try clear hb); (try clear hb2); (try clear hk); (try clear hi); obtain ⟨HGz12, hgz12⟩ := HI0.out; have hcz12_0 := cellS86_0 HGz12; have hcz12_1 := cellS86_1 HGz12; have hcz12_2 := cellS86_2 HGz12; have hcz12_3 := cellS86_3 HGz12; have hfz12_0 := blk_frozen HGz12 0; have hfz12_1 := blk_frozen HGz12 1; have hfz12_2 := blk_frozen HGz12 2; have hfz12_3 := blk_frozen HGz12 3; clear HGz12 hgz12) | (go_at_call 77; (with_reducible refine (wire_reader_fail.calls g t102 t103 t104 t105 152 t110 t111 t112 t113 w0 _ ?side1 ?side2 A10.out).mono ?_); (case side1 => exact qq2); (case side2 => repeat (first | (with_reducible first | exact HB.out | apply below_alloc | apply pw_below_drewN | apply below_drew1 | refine below_set ?_ (IsS86.ge HI0.out)) | exact HB.out)); rintro e w13 ⟨rfl, hi, hb, hk⟩; replace HK := Aside0.mk (KeepBut.trans qq3 hk (.inl rfl)); replace HB := Aside0.mk (hb); replace HI0 := Aside0.mk (hi); (try clear hb); (try clear hb2); (try clear hk); (try clear hi))))
    go_ret
    exact ⟨qq5, qq2, by repeat (first | (with_reducible first | exact HB.out | apply below_alloc | apply pw_below_drewN | apply below_drew1 | refine below_set ?_ (IsS86.ge HI0.out)) | exact HB.out), qq3⟩
  rw [if_neg c9] at H
  have c9b0 : decide ((t102.size : Int) < (wrap64 (t103 + t101))) = false := decide_eq_false c9
  clear c9
  by_cases c14 : 0 ≤ t103
  rotate_left
  · rw [if_neg c14] at H
    exact absurd H (by simp)
  rw [if_pos c14] at H
  have c14b0 := eq_true c14
  have c14b1 : decide (0 ≤ t103) = true := decide_eq_true c14
  clear c14
  by_cases c15 : t103 ≤ (wrap64 (t103 + t101))
  rotate_left
  · rw [if_neg c15] at H
    exact absurd H (by simp)
  rw [if_pos c15] at H
  have c15b0 := eq_true c15
  have c15b1 : decide (t103 ≤ (wrap64 (t103 + t101))) = true := decide_eq_true c15
  by_cases c16 : (wrap64 (t103 + t101)) ≤ (t102.size : Int)
  rotate_left
  · rw [if_neg c16] at H
    exact absurd H (by simp)
  rw [if_pos c16] at H
  have c16b0 := eq_true c16
  have c16b1 : decide ((wrap64 (t103 + t101)) ≤ (t102.size : Int)) = true := decide_eq_true c16
  simp only [Option.some.injEq, Prod.mk.injEq] at H
  obtain ⟨rfl, rfl, rfl, rfl, rfl⟩ := H
  go_enter Try.func73, Try.ntmps73
  go_wp2_with (first | (go_at_call 70; (with_reducible refine (wire_reader_number.calls k g s0_0 s0_1 s0_2 s0_3 t101 t102 t103 t104 t105 w0 _ ?side1 ?side2 A2.out).mono ?_); (case side1 => exact qq2); (case side2 => repeat (first | (with_reducible first | exact HB.out | apply below_alloc | apply pw_below_drewN | apply below_drew1 | refine below_set ?_ (IsS86.ge HI0.out)) | exact HB.out)); rintro e w17 ⟨rfl, hi, hb, hk⟩; replace HK := Aside0.mk (KeepBut.trans qq3 hk (.inl rfl)); replace HB := Aside0.mk (hb); replace HI0 := Aside0.mk (hi); (try clear hb); (try clear hb2); (try clear hk); (try clear hi); obtain ⟨HGz18, hgz18⟩ := HI0.out; have hcz18_0 := cellS86_0 HGz18; have hcz18_1 := cellS86_1 HGz18; have hcz18_2 := cellS86_2 HGz18; have hcz18_3 := cellS86_3 HGz18; have hfz18_0 := blk_frozen HGz18 0; have hfz18_1 := blk_frozen HGz18 1; have hfz18_2 := blk_frozen HGz18 2; have hfz18_3 := blk_frozen HGz18 3; clear HGz18 hgz18))
  repeat (go_quiet (first | (go_at_call 70; (with_reducible refine (wire_reader_number.calls k g s0_0 s0_1 s0_2 s0_3 t101 t102 t103 t104 t105 w0 _ ?side1 ?side2 A2.out).mono ?_); (case side1 => exact qq2); (case side2 => repeat (first | (with_reducible first | exact HB.out | apply below_alloc | apply pw_below_drewN | apply below_drew1 | refine below_set ?_ (IsS86.ge HI0.out)) | exact HB.out)); rintro e w17 ⟨rfl, hi, hb, hk⟩; replace HK := Aside0.mk (KeepBut.trans qq3 hk (.inl rfl)); replace HB := Aside0.mk (hb); replace HI0 := Aside0.mk (hi); (try clear hb); (try clear hb2); (try clear hk); (try clear hi); obtain ⟨HGz18, hgz18⟩ := HI0.out; have hcz18_0 := cellS86_0 HGz18; have hcz18_1 := cellS86_1 HGz18; have hcz18_2 := cellS86_2 HGz18; have hcz18_3 := cellS86_3 HGz18; have hfz18_0 := blk_frozen HGz18 0; have hfz18_1 := blk_frozen HGz18 1; have hfz18_2 := blk_frozen HGz18 2; have hfz18_3 := blk_frozen HGz18 3; clear HGz18 hgz18)); try go_wp2_with (first | (go_at_call 70; (with_reducible refine (wire_reader_number.calls k g s0_0 s0_1 s0_2 s0_3 t101 t102 t103 t104 t105 w0 _ ?side1 ?side2 A2.out).mono ?_); (case side1 => exact qq2); (case side2 => repeat (first | (with_reducible first | exact HB.out | apply below_alloc | apply pw_below_drewN | apply below_drew1 | refine below_set ?_ (IsS86.ge HI0.out)) | exact HB.out)); rintro e w17 ⟨rfl, hi, hb, hk⟩; replace HK := Aside0.mk (KeepBut.trans qq3 hk (.inl rfl)); replace HB := Aside0.mk (hb); replace HI0 := Aside0.mk (hi); (try clear hb); (try clear hb2); (try clear hk); (try clear hi); obtain ⟨HGz18, hgz18⟩ := HI0.out; have hcz18_0 := cellS86_0 HGz18; have hcz18_1 := cellS86_1 HGz18; have hcz18_2 := cellS86_2 HGz18; have hcz18_3 := cellS86_3 HGz18; have hfz18_0 := blk_frozen HGz18 0; have hfz18_1 := blk_frozen HGz18 1; have hfz18_2 := blk_frozen HGz18 2; have hfz18_3 := blk_frozen HGz18 3; clear HGz18 hgz18)))
  go_ret
  exact ⟨qq5, qq2, by repeat (first | (with_reducible first | exact HB.out | apply below_alloc | apply pw_below_drewN | apply below_drew1 | refine below_set ?_ (IsS86.ge HI0.out)) | exact HB.out), qq3⟩
end Go.Proofs.Ytdmnknhlibaaoaa.M
namespace Go.Proofs.Ytdmnknhlibaaoaa.M
open Go.RowKit Go.Proofs.YtdmnknhlibaaoaaW.PrintWords Go.Proofs.YtdmnknhlibaaoaaW.PrintLast Go.Proofs.YtdmnknhlibaaoaaW.PrintMore
class StH (w : outParam World) (w' : World) : Prop where
  keep : ∀ (k : Nat), k < w.heap.size → w'.heap[k]? = w.heap[k]?
  below : ∀ (w0 : World), Below w0.heap.size w0 w → Below w0.heap.size w0 w'
instance (priority := low) StH.refl (w : World) : StH w w := ⟨fun _ _ => rfl, fun _ h => h⟩
theorem StH.size {w w' : World} (h : StH w w') : w.heap.size ≤ w'.heap.size := by
  have h1 := h.below w (Below.refl _ _)
  exact h1.size
instance StH.alloc (w w' : World) (o : Obj) [h : StH w w'] : StH w (w'.alloc o) := ⟨fun k hk => by
  have h1 := h.keep k hk
  have h2 := h.size
  rw [← h1]
  exact Below.heap_alloc _ _ _ (by omega), fun w0 hb => below_alloc (h.below w0 hb) _⟩
instance StH.drew (w w' : World) [h : StH w w'] : StH w w'.drew := ⟨fun k hk => h.keep k hk, fun w0 hb => below_drew1 (h.below w0 hb)⟩
instance StH.drewN (w w' : World) (n : Nat) [h : StH w w'] : StH w (w'.drewN n) := ⟨fun k hk => by
  have hlt : k < w.heap.size := hk
  have h1 := h.keep k hk
  have h2 : w.heap[k]? = some w.heap[k] := Array.getElem?_eq_getElem hlt
  rw [h2] at h1 ⊢
  exact blk_drewN h1 n, fun w0 hb => by apply pw_below_drewN; exact h.below w0 hb⟩
theorem bq {w w' : World} {g : Nat} {o : Obj} (h : w.heap[g]? = some o) [st : StH w w'] : w'.heap[g]? = some o := (st.keep g (Array.getElem?_eq_some_iff.1 h).1).trans h
theorem qB {w w0 w' : World} (h : Below w0.heap.size w0 w) [st : StH w w'] : Below w0.heap.size w0 w' := st.below w0 h
section
variable {α : Type} {d : Kd α} {e : Nat} {w w' : World} {base : Nat} {ok : Nat → Prop} {v : Value} {xs : List α}
theorem qR (h : d.R e w base ok v xs) [st : StH w w'] : d.R e w' base ok v xs := Kd.R_step h (fun k _ hk => st.keep k hk)
theorem qN (h : d.N e w base ok v xs) [st : StH w w'] : d.N e w' base ok v xs := Kd.N_step h (fun k _ hk => st.keep k hk)
theorem qV (h : d.V e w base ok v xs) [st : StH w w'] : d.V e w' base ok v xs := Kd.V_step h (fun k _ hk => st.keep k hk)
end
class InL (b : Nat) (L : List Nat) : Prop where
  mem : b ∈ L
instance InL.head (b : Nat) (L : List Nat) : InL b (b :: L) := ⟨List.mem_cons_self⟩
instance (priority := low) InL.tail (a b : Nat) (L : List Nat) [h : InL b L] : InL b (a :: L) := ⟨List.mem_cons_of_mem _ h.mem⟩
class StS (L : List Nat) (w : outParam World) (w' : World) : Prop where
  below : ∀ (w0 : World), (∀ b, b ∈ L → w0.heap.size ≤ b) → Below w0.heap.size w0 w → Below w0.heap.size w0 w'
instance (priority := low) StS.refl (L : List Nat) (w : World) : StS L w w := ⟨fun _ _ h => h⟩
instance StS.alloc (L : List Nat) (w w' : World) (o : Obj) [h : StS L w w'] : StS L w (w'.alloc o) := ⟨fun w0 hl hb => below_alloc (h.below w0 hl hb) _⟩
instance StS.drew (L : List Nat) (w w' : World) [h : StS L w w'] : StS L w w'.drew := ⟨fun w0 hl hb => below_drew1 (h.below w0 hl hb)⟩
instance StS.drewN (L : List Nat) (w w' : World) (n : Nat) [h : StS L w w'] : StS L w (w'.drewN n) := ⟨fun w0 hl hb => by apply pw_below_drewN; exact h.below w0 hl hb⟩
instance StS.set (L : List Nat) (w w' : World) (b j : Nat) (v : Value) [h : StS L w w'] [hi : InL b L] : StS L w (w'.setCell ⟨b, j, none⟩ v) := ⟨fun w0 hl hb => below_set (h.below w0 hl hb) (hl b hi.mem)⟩
section
variable {w w0 w' : World} {a b c d e f i j k : Nat}
theorem qS1 (ga : Aside0 (w0.heap.size ≤ a)) (h : Below w0.heap.size w0 w) [st : StS [a] w w'] : Below w0.heap.size w0 w' := st.below w0 (by intro x hx; simp only [List.mem_cons, List.not_mem_nil, or_false] at hx; subst hx; exact ga.out) h
theorem qS2 (ga : Aside0 (w0.heap.size ≤ a)) (gb : Aside0 (w0.heap.size ≤ b)) (h : Below w0.heap.size w0 w) [st : StS [a, b] w w'] : Below w0.heap.size w0 w' := st.below w0 (by intro x hx; simp only [List.mem_cons, List.not_mem_nil, or_false] at hx; rcases hx with rfl | rfl; all_goals first | exact ga.out | exact gb.out) h
theorem qS3 (ga : Aside0 (w0.heap.size ≤ a)) (gb : Aside0 (w0.heap.size ≤ b)) (gc : Aside0 (w0.heap.size ≤ c)) (h : Below w0.heap.size w0 w) [st : StS [a, b, c] w w'] : Below w0.heap.size w0 w' := st.below w0 (by intro x hx; simp only [List.mem_cons, List.not_mem_nil, or_false] at hx; rcases hx with rfl | rfl | rfl; all_goals first | exact ga.out | exact gb.out | exact gc.out) h
theorem qS4 (ga : Aside0 (w0.heap.size ≤ a)) (gb : Aside0 (w0.heap.size ≤ b)) (gc : Aside0 (w0.heap.size ≤ c)) (gd : Aside0 (w0.heap.size ≤ d)) (h : Below w0.heap.size w0 w) [st : StS [a, b, c, d] w w'] : Below w0.heap.size w0 w' := st.below w0 (by intro x hx; simp only [List.mem_cons, List.not_mem_nil, or_false] at hx; rcases hx with rfl | rfl | rfl | rfl; all_goals first | exact ga.out | exact gb.out | exact gc.out | exact gd.out) h
theorem qS5 (ga : Aside0 (w0.heap.size ≤ a)) (gb : Aside0 (w0.heap.size ≤ b)) (gc : Aside0 (w0.heap.size ≤ c)) (gd : Aside0 (w0.heap.size ≤ d)) (ge : Aside0 (w0.heap.size ≤ e)) (h : Below w0.heap.size w0 w) [st : StS [a, b, c, d, e] w w'] : Below w0.heap.size w0 w' := st.below w0 (by intro x hx; simp only [List.mem_cons, List.not_mem_nil, or_false] at hx; rcases hx with rfl | rfl | rfl | rfl | rfl; all_goals first | exact ga.out | exact gb.out | exact gc.out | exact gd.out | exact ge.out) h
theorem qS6 (ga : Aside0 (w0.heap.size ≤ a)) (gb : Aside0 (w0.heap.size ≤ b)) (gc : Aside0 (w0.heap.size ≤ c)) (gd : Aside0 (w0.heap.size ≤ d)) (ge : Aside0 (w0.heap.size ≤ e)) (gf : Aside0 (w0.heap.size ≤ f)) (h : Below w0.heap.size w0 w) [st : StS [a, b, c, d, e, f] w w'] : Below w0.heap.size w0 w' := st.below w0 (by intro x hx; simp only [List.mem_cons, List.not_mem_nil, or_false] at hx; rcases hx with rfl | rfl | rfl | rfl | rfl | rfl; all_goals first | exact ga.out | exact gb.out | exact gc.out | exact gd.out | exact ge.out | exact gf.out) h
theorem qS7 (ga : Aside0 (w0.heap.size ≤ a)) (gb : Aside0 (w0.heap.size ≤ b)) (gc : Aside0 (w0.heap.size ≤ c)) (gd : Aside0 (w0.heap.size ≤ d)) (ge : Aside0 (w0.heap.size ≤ e)) (gf : Aside0 (w0.heap.size ≤ f)) (gi : Aside0 (w0.heap.size ≤ i)) (h : Below w0.heap.size w0 w) [st : StS [a, b, c, d, e, f, i] w w'] : Below w0.heap.size w0 w' := st.below w0 (by intro x hx; simp only [List.mem_cons, List.not_mem_nil, or_false] at hx; rcases hx with rfl | rfl | rfl | rfl | rfl | rfl | rfl; all_goals first | exact ga.out | exact gb.out | exact gc.out | exact gd.out | exact ge.out | exact gf.out | exact gi.out) h
end
section
variable {w : World} {g : Nat} {t : TypeId} {a b c d e f : Value}
theorem blk3 (h : w.heap[g]? = some (.cells #[a, b, c] t (0, 0))) : w.cell? ⟨g, 0, none⟩ = some a ∧ w.cell? ⟨g, 1, none⟩ = some b ∧ w.cell? ⟨g, 2, none⟩ = some c ∧ w.frozen? ⟨g, 0, none⟩ = false ∧ w.frozen? ⟨g, 1, none⟩ = false ∧ w.frozen? ⟨g, 2, none⟩ = false :=
  ⟨(blk_cell h 0).trans rfl, (blk_cell h 1).trans rfl, (blk_cell h 2).trans rfl, blk_frozen h 0, blk_frozen h 1, blk_frozen h 2⟩
theorem blk6 (h : w.heap[g]? = some (.cells #[a, b, c, d, e, f] t (0, 0))) : w.cell? ⟨g, 0, none⟩ = some a ∧ w.cell? ⟨g, 1, none⟩ = some b ∧ w.cell? ⟨g, 2, none⟩ = some c ∧ w.cell? ⟨g, 3, none⟩ = some d ∧ w.cell? ⟨g, 4, none⟩ = some e ∧ w.cell? ⟨g, 5, none⟩ = some f ∧
    w.frozen? ⟨g, 0, none⟩ = false ∧ w.frozen? ⟨g, 1, none⟩ = false ∧ w.frozen? ⟨g, 2, none⟩ = false ∧ w.frozen? ⟨g, 3, none⟩ = false ∧ w.frozen? ⟨g, 4, none⟩ = false ∧ w.frozen? ⟨g, 5, none⟩ = false :=
  ⟨(blk_cell h 0).trans rfl, (blk_cell h 1).trans rfl, (blk_cell h 2).trans rfl, (blk_cell h 3).trans rfl, (blk_cell h 4).trans rfl, (blk_cell h 5).trans rfl, blk_frozen h 0, blk_frozen h 1, blk_frozen h 2, blk_frozen h 3, blk_frozen h 4, blk_frozen h 5⟩
end
def bs (k n : Nat) : Array Bool := ((List.range n).map fun i => Nat.testBit k i).toArray
section
variable {P : Program} {ops : Array Oper} {Q : Exit → Act → World → Prop} {md : Region.Mode} {S : World → Prop} {ds : List Nat}
theorem pureS (i : Nat) (N : Option Tmp) (l' : Array Bool) {oi : Oper} {v : Value} {fuel : Nat} {l : Array Bool} {a a' : Act} {w : World}
    (h : wpAnyLast P md ops Q S ds fuel l' a' w) (hi : ops[i]? = some oi := by exact rfl) (hN : oi.dst = N := by exact rfl) (hc : anyB md ops l l' i = true := by exact any_of HT_.out (by kernel_rfl))
    (hQ : ∀ c a w, Q (.panic c) (a.put oi.dst v) w → Q (.panic c) a w := by exact fun _ _ _ h => h)
    (hy : Yields P ops oi v a := by refine Or.inl ⟨by rfl, ?_⟩; intro w'; go_simp; with_reducible rfl)
    (ha : a.put N v = a' := by simp only [Act.put, List.setIfInBounds_toArray, List.set_cons_zero, List.set_cons_succ, i64_w, i32_w]; rfl) : wpAnyLast P md ops Q S ds (fuel + 1) l a w :=
  pure_ l' hi hN hc hQ hy ha h
theorem normS (N : Option Tmp) {fuel : Nat} {l : Array Bool} {a a' : Act} {v : Value} {w : World} (h : wpAnyLast P md ops Q S ds fuel l a' w)
    (ha : a.put N v = a' := by simp only [Act.put, List.setIfInBounds_toArray, List.set_cons_zero, List.set_cons_succ, i64_w, i32_w]; rfl) : wpAnyLast P md ops Q S ds fuel l (a.put N v) w := norm_ ha h
end
end Go.Proofs.Ytdmnknhlibaaoaa.M
namespace Go.Proofs.Ytdmnknhlibaaoaa.M
open Go.RowKit Go.Proofs.YtdmnknhlibaaoaaW.PrintWords Go.Proofs.YtdmnknhlibaaoaaW.PrintLast Go.Proofs.YtdmnknhlibaaoaaW.PrintMore
attribute [local go_sem] max2_int min2_int max_two min_two max_three min_three max_four min_four
set_option linter.unusedVariables false
set_option linter.unusedSimpArgs false
def wire_reader_message.f (k : Nat) (s0_0 : ByteArray) (s0_1 : Int) (s0_2 : Int) (s0_3 : Int) : Option (Int × Int × Int × Int × Int × ByteArray × ByteArray × Int × Int × Int) := (wire_reader_number.f k s0_0 s0_1 s0_2 s0_3).bind fun bt102 => ((wire_reader_status.f bt102.2.1 bt102.2.2.1 bt102.2.2.2.1 bt102.2.2.2.2).bind fun bt108 => (if bt108.1 = 255 then ((wire_reader_data.f bt108.2.1 bt108.2.2.1 0 bt108.2.2.2.2).bind fun bt113 => ((wire_reader_bytes.f k bt113.2.1 bt113.2.2.1 bt113.2.2.2.1 bt113.2.2.2.2).bind fun bt118 => (some (bt102.1, 16, 0, bt113.1, 0, bt118.1, bt118.2.1, bt118.2.2.1, bt118.2.2.2.1, bt118.2.2.2.2)))) else (if bt108.1 ≥ 240 then ((wire_reader_bytes.f k bt108.2.1 bt108.2.2.1 0 bt108.2.2.2.2).bind fun bt123 => (some (bt102.1, 15, 0, bt108.1, 0, bt123.1, bt123.2.1, bt123.2.2.1, bt123.2.2.2.1, bt123.2.2.2.2))) else ((wire_reader_data.f bt108.2.1 bt108.2.2.1 bt108.1 bt108.2.2.2.2).bind fun bt128 => ((wire_one.f (wrap64 (Int.tdiv bt108.1 16))).bind fun t133 => (if t133 = true then (some (bt102.1, wrap64 (Int.tdiv bt108.1 16), Int.tmod bt108.1 16, bt128.1, 0, (⟨#[]⟩ : ByteArray), bt128.2.1, bt128.2.2.1, bt128.2.2.2.1, bt128.2.2.2.2)) else ((wire_reader_data.f bt128.2.1 bt128.2.2.1 bt128.2.2.2.1 bt128.2.2.2.2).bind fun bt134 => (some (bt102.1, wrap64 (Int.tdiv bt108.1 16), Int.tmod bt108.1 16, bt128.1, bt134.1, (⟨#[]⟩ : ByteArray), bt134.2.1, bt134.2.2.1, bt134.2.2.2.1, bt134.2.2.2.2)))))))))
theorem wire_reader_message.mono : ∀ a0 a1 a2 a3 k, LeO (wire_reader_message.f k a0 a1 a2 a3) (wire_reader_message.f (k + 1) a0 a1 a2 a3) := by
  intro a0 a1 a2 a3 k
  unfold wire_reader_message.f
  repeat' first
      | (with_reducible exact wire_reader_bytes.mono _ _ _ _ _)
      | (with_reducible exact wire_reader_number.mono _ _ _ _ _)
      | (with_reducible exact LeO.refl _)
      | (with_reducible exact LeO.none _)
      | (with_reducible refine LeO.ite ?_ ?_)
      | (with_reducible refine LeO.bind ?_ (fun _ => ?_))
      | exact wire_reader_bytes.mono _ _ _ _ _
      | exact wire_reader_number.mono _ _ _ _ _
      | exact LeO.none _
      | refine LeO.ite ?_ ?_
      | refine LeO.bind ?_ (fun _ => ?_)
set_option maxHeartbeats 8000000 in
set_option maxRecDepth 100000 in
theorem wire_reader_message.calls (k : Nat) (g : Nat) (s0_0 : ByteArray) (s0_1 : Int) (s0_2 : Int) (s0_3 : Int) (r1 : Int) (r2 : Int) (r3 : Int) (r4 : Int) (r5 : Int) (r6 : ByteArray) (r7 : ByteArray) (r8 : Int) (r9 : Int) (r10 : Int) (w0 w : World) (hI : IsS86 w0 w g s0_0 s0_1 s0_2 s0_3) (hB : Below w0.heap.size w0 w) (h : wire_reader_message.f k s0_0 s0_1 s0_2 s0_3 = some (r1, r2, r3, r4, r5, r6, r7, r8, r9, r10)) :
    Calls Try.prog 66 #[.pointer (some ⟨g, 0, none⟩)] w fun e w' => e = .returned (.agg #[.int .i64 r1, .int .i64 r2, .int .i64 r3, .int .i64 r4, .int .i64 r5, .string r6]) ∧ IsS86 w0 w' g r7 r8 r9 r10 ∧ Below w0.heap.size w0 w' ∧ KeepBut w w' g none := by
  have hu28 := Try.underlying28
  have HI0 := Aside0.mk hI
  have HK := Aside0.mk (KeepBut.refl w g none)
  have HL := Aside0.mk hB.size
  clear hI
  have HW0 := Aside0.mk hB.size
  have HB := Aside0.mk hB
  clear hB
  have H := h
  unfold wire_reader_message.f at H
  clear h
  replace H := Option.bind_eq_some_iff.mp H
  obtain ⟨⟨t102, t103, t104, t105, t106⟩, A20, H⟩ := H
  try dsimp -simprocs only at H
  have A2 := Aside0.mk A20
  clear A20
  replace H := Option.bind_eq_some_iff.mp H
  obtain ⟨⟨t108, t109, t110, t111, t112⟩, A30, H⟩ := H
  try dsimp -simprocs only at H
  have A3 := Aside0.mk A30
  clear A30
  by_cases c4 : t108 = 255
  · rw [if_pos c4] at H
    have c4b0 : (t108 == 255) = true := beq_iff_eq.mpr c4
    have c4b1 : (t108 != 255) = false := bne_eq_false_iff_eq.mpr c4
    clear c4
    replace H := Option.bind_eq_some_iff.mp H
    obtain ⟨⟨t113, t114, t115, t116, t117⟩, A50, H⟩ := H
    try dsimp -simprocs only at H
    have A5 := Aside0.mk A50
    clear A50
    replace H := Option.bind_eq_some_iff.mp H
    obtain ⟨⟨t118, t119, t120, t121, t122⟩, A60, H⟩ := H
    try dsimp -simprocs only at H
    have A6 := Aside0.mk A60
    clear A60
    simp only [Option.some.injEq, Prod.mk.injEq] at H
    obtain ⟨rfl, rfl, rfl, rfl, rfl, rfl, rfl, rfl, rfl, rfl⟩ := H
    go_enter Try.func66, Try.ntmps66
    go_wp2_with (first | ((with_reducible refine gate_dst (N := 2) rfl ?_); refine box_event ?hg (N := 2) ?hd (cs := #[.int .i64 0, .int .i64 0, .int .i64 0, .int .i64 0, .int .i64 0, .string (⟨#[]⟩ : ByteArray)]) (t := 28) ?hr ?_; (case hd => rfl); (case hg => rfl); (case hr => exact qq6); intro gb101 hg w7 hbox hb; replace HB := Aside0.mk (below_step (by repeat (first | (with_reducible first | exact HB.out | apply below_alloc | apply pw_below_drewN | apply below_drew1 | refine below_set ?_ (IsS86.ge HI0.out)) | exact HB.out)) hb); have BK101 := Aside0.mk (hbox); have GW101 := Aside0.mk ((qqH : w.heap.size ≤ gb101)); have GE101 := Aside0.mk ((Nat.le_trans HW0.out (qqH : w.heap.size ≤ gb101) : w0.heap.size ≤ gb101)); replace HK := Aside0.mk (KeepBut.trans qq3 (KeepBut.of_below hb g none) (.inl rfl)); have NB0_101 := Aside0.mk ((qqp : g ≠ gb101)); have NB101_0 := Aside0.mk ((qqq : gb101 ≠ g)); replace HI0 := Aside0.mk (IsS86.below qq2 hb); clear hb hbox hg) | ((with_reducible refine gate_callee (f := 70) rfl ?_); refine goesL_ (some 6) rfl rfl Try.func70 (by kernel_rfl) rfl #[.pointer (some ⟨g, 0, none⟩)] rfl qq0 ?_; (with_reducible refine (wire_reader_number.calls k g s0_0 s0_1 s0_2 s0_3 t102 t103 t104 t105 t106 w0 _ ?side1 ?side2 A2.out).mono ?_); (case side1 => repeat (first | (with_reducible first | exact HI0.out | apply IsS86.alloc | apply IsS86.drewN | apply IsS86.drew | apply IsS86.set_0 | apply IsS86.set_1 | apply IsS86.set_2 | apply IsS86.set_3 | refine IsS86.far ?_ NB0_101.out _) | exact HI0.out)); (case side2 => repeat (first | (with_reducible first | exact HB.out | apply below_alloc | apply pw_below_drewN | apply below_drew1 | refine below_set ?_ (IsS86.ge HI0.out) | refine below_set ?_ GE101.out) | exact HB.out)); rintro e w8 ⟨rfl, hi, hb, hk⟩; refine ⟨_, rfl, ?_⟩; replace BK101 := Aside0.mk (KeepBut.blk hk (g' := gb101) (o := .cells #[.int .i64 0, .int .i64 0, .int .i64 0, .int .i64 0, .int .i64 0, .string (⟨#[]⟩ : ByteArray)] 28 (0, 0)) (bq BK101.out) NB101_0.out (by simp)); replace HK := Aside0.mk (KeepBut.trans (by repeat (first | (with_reducible first | exact HK.out | apply KeepBut.set_ | apply keep_drewN | apply keep_drew | apply keep_alloc | refine keep_far ?_ GW101.out _) | exact HK.out)) hk (.inl rfl)); replace HB := Aside0.mk (hb); replace HI0 := Aside0.mk (hi); (try clear hb); (try clear hb2); (try clear hk); (try clear hi)) | ((with_reducible refine gate_dst (N := 3) rfl ?_); refine box_event ?hg (N := 3) ?hd (cs := #[.int .i64 0, .int .i64 0, .int .i64 0, .int .i64 0, .int .i64 0, .string (⟨#[]⟩ : ByteArray)]) (t := 28) ?hr ?_; (case hd => rfl); (case hg => rfl); (case hr => exact qq6); intro gb107 hg w9 hbox hb; replace HB := Aside0.mk (below_step (by repeat (first | (with_reducible first | exact HB.out | apply below_alloc | apply pw_below_drewN | apply below_drew1 | refine below_set ?_ (IsS86.ge HI0.out) | refine below_set ?_ GE101.out) | exact HB.out)) hb); have BK107 := Aside0.mk (hbox); have GW107 := Aside0.mk ((by rw [hg]; exact (keep_size (w := w) (g := g) (row := none) (by repeat (first | (with_reducible first | exact HK.out | apply KeepBut.set_ | apply keep_drewN | apply keep_drew | apply keep_alloc | refine keep_far ?_ GW101.out _) | exact HK.out))) : w.heap.size ≤ gb107)); have GE107 := Aside0.mk ((Nat.le_trans HW0.out (by rw [hg]; exact (keep_size (w := w) (g := g) (row := none) (by repeat (first | (with_reducible first | exact HK.out | apply KeepBut.set_ | apply keep_drewN | apply keep_drew | apply keep_alloc | refine keep_far ?_ GW101.out _) | exact HK.out))) : w.heap.size ≤ gb107) : w0.heap.size ≤ gb107)); replace HK := Aside0.mk (KeepBut.trans (by repeat (first | (with_reducible first | exact HK.out | apply KeepBut.set_ | apply keep_drewN | apply keep_drew | apply keep_alloc | refine keep_far ?_ GW101.out _) | exact HK.out)) (KeepBut.of_below hb g none) (.inl rfl)); have NB101_107 := Aside0.mk ((qqb : gb101 ≠ gb107)); have NB107_101 := Aside0.mk ((qqc : gb107 ≠ gb101)); replace BK101 := Aside0.mk (blk_below (bq BK101.out) hb); have NB0_107 := Aside0.mk ((by rw [hg]; exact Nat.ne_of_lt (IsS86.lt (show IsS86 w0 _ g t103 t104 t105 t106 from by repeat (first | (with_reducible first | exact HI0.out | apply IsS86.alloc | apply IsS86.drewN | apply IsS86.drew | apply IsS86.set_0 | apply IsS86.set_1 | apply IsS86.set_2 | apply IsS86.set_3 | refine IsS86.far ?_ NB0_101.out _) | exact HI0.out))) : g ≠ gb107)); have NB107_0 := Aside0.mk ((by rw [hg]; exact Nat.ne_of_gt (IsS86.lt (show IsS86 w0 _ g t103 t104 t105 t106 from by repeat (first | (with_reducible first | exact HI0.out | apply IsS86.alloc | apply IsS86.drewN | apply IsS86.drew | apply IsS86.set_0 | apply IsS86.set_1 | apply IsS86.set_2 | apply IsS86.set_3 | refine IsS86.far ?_ NB0_101.out _) | exact HI0.out))) : gb107 ≠ g)); replace HI0 := Aside0.mk (IsS86.below (by repeat (first | (with_reducible first | exact HI0.out | apply IsS86.alloc | apply IsS86.drewN | apply IsS86.drew | apply IsS86.set_0 | apply IsS86.set_1 | apply IsS86.set_2 | apply IsS86.set_3 | refine IsS86.far ?_ NB0_101.out _) | exact HI0.out)) hb); clear hb hbox hg; have hnb10 := NB107_101.out; have hnc10 := NB101_107.out; have hnb11 := NB107_0.out; have hnc11 := NB0_107.out; obtain ⟨hcz12_0, hcz12_1, hcz12_2, hcz12_3, hcz12_4, hcz12_5, hfz12_0, hfz12_1, hfz12_2, hfz12_3, hfz12_4, hfz12_5⟩ := blk6 BK107.out) | ((with_reducible refine gate_callee (f := 71) rfl ?_); refine goesL_ (some 9) rfl rfl Try.func71 (by kernel_rfl) rfl #[.pointer (some ⟨g, 0, none⟩)] rfl qq0 ?_; (with_reducible refine (wire_reader_status.calls g t103 t104 t105 t106 t108 t109 t110 t111 t112 w0 _ ?side1 ?side2 A3.out).mono ?_); (case side1 => repeat (first | (with_reducible first | exact HI0.out | apply IsS86.alloc | apply IsS86.drewN | apply IsS86.drew | apply IsS86.set_0 | apply IsS86.set_1 | apply IsS86.set_2 | apply IsS86.set_3 | refine IsS86.far ?_ NB0_101.out _ | refine IsS86.far ?_ NB0_107.out _) | exact HI0.out)); (case side2 => repeat (first | (with_reducible first | exact HB.out | apply below_alloc | apply pw_below_drewN | apply below_drew1 | refine below_set ?_ (IsS86.ge HI0.out) | refine below_set ?_ GE101.out | refine below_set ?_ GE107.out) | exact HB.out)); rintro e w13 ⟨rfl, hi, hb, hk⟩; refine ⟨_, rfl, ?_⟩; replace BK101 := Aside0.mk (KeepBut.blk hk (g' := gb101) (o := .cells #[.int .i64 0, .int .i64 0, .int .i64 0, .int .i64 0, .int .i64 0, .string (⟨#[]⟩ : ByteArray)] 28 (0, 0)) (by refine bq ?_; refine blk_far ?_ NB101_107.out _; refine bq ?_; refine blk_far ?_ NB101_107.out _; refine bq ?_; refine blk_far ?_ NB101_107.out _; refine bq ?_; refine blk_far ?_ NB101_107.out _; refine bq ?_; refine blk_far ?_ NB101_107.out _; refine bq ?_; refine blk_far ?_ NB101_107.out _; exact bq BK101.out) NB101_0.out (by simp)); replace BK107 := Aside0.mk (KeepBut.blk hk (g' := gb107) (o := .cells #[.int .i64 t102, .int .i64 0, .int .i64 0, .int .i64 0, .int .i64 0, .string (⟨#[]⟩ : ByteArray)] 28 (0, 0)) (by refine bq ?_; refine blk_put (cs := #[.int .i64 t102, .int .i64 0, .int .i64 0, .int .i64 0, .int .i64 0, .string (⟨#[]⟩ : ByteArray)]) ?_ 5 _ rfl; refine bq ?_; refine blk_put (cs := #[.int .i64 t102, .int .i64 0, .int .i64 0, .int .i64 0, .int .i64 0, .string (⟨#[]⟩ : ByteArray)]) ?_ 4 _ rfl; refine bq ?_; refine blk_put (cs := #[.int .i64 t102, .int .i64 0, .int .i64 0, .int .i64 0, .int .i64 0, .string (⟨#[]⟩ : ByteArray)]) ?_ 3 _ rfl; refine bq ?_; refine blk_put (cs := #[.int .i64 t102, .int .i64 0, .int .i64 0, .int .i64 0, .int .i64 0, .string (⟨#[]⟩ : ByteArray)]) ?_ 2 _ rfl; refine bq ?_; refine blk_put (cs := #[.int .i64 t102, .int .i64 0, .int .i64 0, .int .i64 0, .int .i64 0, .string (⟨#[]⟩ : ByteArray)]) ?_ 1 _ rfl; refine bq ?_; refine blk_put (cs := #[.int .i64 0, .int .i64 0, .int .i64 0, .int .i64 0, .int .i64 0, .string (⟨#[]⟩ : ByteArray)]) ?_ 0 _ rfl; exact bq BK107.out) NB107_0.out (by simp)); replace HK := Aside0.mk (KeepBut.trans (by repeat (first | (with_reducible first | exact HK.out | apply KeepBut.set_ | apply keep_drewN | apply keep_drew | apply keep_alloc | refine keep_far ?_ GW101.out _ | refine keep_far ?_ GW107.out _) | exact HK.out)) hk (.inl rfl)); replace HB := Aside0.mk (hb); replace HI0 := Aside0.mk (hi); (try clear hb); (try clear hb2); (try clear hk); (try clear hi); obtain ⟨HGz14, hgz14⟩ := HI0.out; have hcz14_0 := cellS86_0 HGz14; have hcz14_1 := cellS86_1 HGz14; have hcz14_2 := cellS86_2 HGz14; have hcz14_3 := cellS86_3 HGz14; have hfz14_0 := blk_frozen HGz14 0; have hfz14_1 := blk_frozen HGz14 1; have hfz14_2 := blk_frozen HGz14 2; have hfz14_3 := blk_frozen HGz14 3; clear HGz14 hgz14) | ((with_reducible refine gate_callee (f := 72) rfl ?_); refine goesL_ (some 37) rfl rfl Try.func72 (by kernel_rfl) rfl #[.pointer (some ⟨g, 0, none⟩)] rfl qq0 ?_; (with_reducible refine (wire_reader_data.calls g t109 t110 0 t112 t113 t114 t115 t116 t117 w0 _ ?side1 ?side2 A5.out).mono ?_); (case side1 => repeat (first | (with_reducible first | exact HI0.out | apply IsS86.alloc | apply IsS86.drewN | apply IsS86.drew | apply IsS86.set_0 | apply IsS86.set_1 | apply IsS86.set_2 | apply IsS86.set_3 | refine IsS86.far ?_ NB0_101.out _ | refine IsS86.far ?_ NB0_107.out _) | exact HI0.out)); (case side2 => repeat (first | (with_reducible first | exact HB.out | apply below_alloc | apply pw_below_drewN | apply below_drew1 | refine below_set ?_ (IsS86.ge HI0.out) | refine below_set ?_ GE101.out | refine below_set ?_ GE107.out) | exact HB.out)); rintro e w15 ⟨rfl, hi, hb, hk⟩; refine ⟨_, rfl, ?_⟩; replace BK101 := Aside0.mk (KeepBut.blk hk (g' := gb101) (o := .cells #[.int .i64 0, .int .i64 0, .int .i64 0, .int .i64 0, .int .i64 0, .string (⟨#[]⟩ : ByteArray)] 28 (0, 0)) (by refine bq ?_; refine blk_far ?_ NB101_0.out _; exact bq BK101.out) NB101_0.out (by simp)); replace BK107 := Aside0.mk (KeepBut.blk hk (g' := gb107) (o := .cells #[.int .i64 t102, .int .i64 0, .int .i64 0, .int .i64 0, .int .i64 0, .string (⟨#[]⟩ : ByteArray)] 28 (0, 0)) (by refine bq ?_; refine blk_far ?_ NB107_0.out _; exact bq BK107.out) NB107_0.out (by simp)); replace HK := Aside0.mk (KeepBut.trans (by repeat (first | (with_reducible first | exact HK.out | apply KeepBut.set_ | apply keep_drewN | apply keep_drew | apply keep_alloc | refine keep_far ?_ GW101.out _ | refine keep_far ?_ GW107.out _) | exact HK.out)) hk (.inl rfl)); replace HB := Aside0.mk (hb); replace HI0 := Aside0.mk (hi); (try clear hb); (try clear hb2); (try clear hk); (try clear hi); obtain ⟨hcz16_0, hcz16_1, hcz16_2, hcz16_3, hcz16_4, hcz16_5, hfz16_0, hfz16_1, hfz16_2, hfz16_3, hfz16_4, hfz16_5⟩ := blk6 BK107.out) | ((with_reducible refine gate_callee (f := 73) rfl ?_); refine goesL_ (some 41) rfl rfl Try.func73 (by kernel_rfl) rfl #[.pointer (some ⟨g, 0, none⟩)] rfl qq0 ?_; (with_reducible refine (wire_reader_bytes.calls k g t114 t115 t116 t117 t118 t119 t120 t121 t122 w0 _ ?side1 ?side2 A6.out).mono ?_); (case side1 => repeat (first | (with_reducible first | exact HI0.out | apply IsS86.alloc | apply IsS86.drewN | apply IsS86.drew | apply IsS86.set_0 | apply IsS86.set_1 | apply IsS86.set_2 | apply IsS86.set_3 | refine IsS86.far ?_ NB0_101.out _ | refine IsS86.far ?_ NB0_107.out _) | exact HI0.out)); (case side2 => repeat (first | (with_reducible first | exact HB.out | apply below_alloc | apply pw_below_drewN | apply below_drew1 | refine below_set ?_ (IsS86.ge HI0.out) | refine below_set ?_ GE101.out | refine below_set ?_ GE107.out) | exact HB.out)); rintro e w17 ⟨rfl, hi, hb, hk⟩; refine ⟨_, rfl, ?_⟩; replace BK101 := Aside0.mk (KeepBut.blk hk (g' := gb101) (o := .cells #[.int .i64 0, .int .i64 0, .int .i64 0, .int .i64 0, .int .i64 0, .string (⟨#[]⟩ : ByteArray)] 28 (0, 0)) (by refine bq ?_; refine blk_far ?_ NB101_107.out _; refine bq ?_; refine blk_far ?_ NB101_107.out _; exact bq BK101.out) NB101_0.out (by simp)); replace BK107 := Aside0.mk (KeepBut.blk hk (g' := gb107) (o := .cells #[.int .i64 t102, .int .i64 16, .int .i64 0, .int .i64 t113, .int .i64 0, .string (⟨#[]⟩ : ByteArray)] 28 (0, 0)) (by refine bq ?_; refine blk_put (cs := #[.int .i64 t102, .int .i64 16, .int .i64 0, .int .i64 0, .int .i64 0, .string (⟨#[]⟩ : ByteArray)]) ?_ 3 _ rfl; refine bq ?_; refine blk_put (cs := #[.int .i64 t102, .int .i64 0, .int .i64 0, .int .i64 0, .int .i64 0, .string (⟨#[]⟩ : ByteArray)]) ?_ 1 _ rfl; exact bq BK107.out) NB107_0.out (by simp)); replace HK := Aside0.mk (KeepBut.trans (by repeat (first | (with_reducible first | exact HK.out | apply KeepBut.set_ | apply keep_drewN | apply keep_drew | apply keep_alloc | refine keep_far ?_ GW101.out _ | refine keep_far ?_ GW107.out _) | exact HK.out)) hk (.inl rfl)); replace HB := Aside0.mk (hb); replace HI0 := Aside0.mk (hi); (try clear hb); (try clear hb2); (try clear hk); (try clear hi); obtain ⟨hcz18_0, hcz18_1, hcz18_2, hcz18_3, hcz18_4, hcz18_5, hfz18_0, hfz18_1, hfz18_2, hfz18_3, hfz18_4, hfz18_5⟩ := blk6 BK107.out; have hnb19 := NB101_0.out; have hnc19 := NB0_101.out; obtain ⟨hcz20_0, hcz20_1, hcz20_2, hcz20_3, hcz20_4, hcz20_5, hfz20_0, hfz20_1, hfz20_2, hfz20_3, hfz20_4, hfz20_5⟩ := blk6 BK101.out))
    refine bodyPost_ret (results_cell_row rfl _ _ gb101 28 #[.int .i64 t102, .int .i64 16, .int .i64 0, .int .i64 t113, .int .i64 0, .string t118] (0, 0) _ rfl (by refine bq ?_; refine blk_put (cs := #[.int .i64 t102, .int .i64 16, .int .i64 0, .int .i64 t113, .int .i64 0, .string (⟨#[]⟩ : ByteArray)]) ?_ 5 _ rfl; refine bq ?_; refine blk_put (cs := #[.int .i64 t102, .int .i64 16, .int .i64 0, .int .i64 t113, .int .i64 0, .string (⟨#[]⟩ : ByteArray)]) ?_ 4 _ rfl; refine bq ?_; refine blk_put (cs := #[.int .i64 t102, .int .i64 16, .int .i64 0, .int .i64 0, .int .i64 0, .string (⟨#[]⟩ : ByteArray)]) ?_ 3 _ rfl; refine bq ?_; refine blk_put (cs := #[.int .i64 t102, .int .i64 16, .int .i64 0, .int .i64 0, .int .i64 0, .string (⟨#[]⟩ : ByteArray)]) ?_ 2 _ rfl; refine bq ?_; refine blk_put (cs := #[.int .i64 t102, .int .i64 0, .int .i64 0, .int .i64 0, .int .i64 0, .string (⟨#[]⟩ : ByteArray)]) ?_ 1 _ rfl; refine bq ?_; refine blk_put (cs := #[.int .i64 0, .int .i64 0, .int .i64 0, .int .i64 0, .int .i64 0, .string (⟨#[]⟩ : ByteArray)]) ?_ 0 _ rfl; refine bq ?_; refine blk_far ?_ NB101_107.out _; exact bq BK101.out) Try.underlying28 rfl (by kernel_rfl)) rfl ?_
    exact ⟨qq5, by repeat (first | (with_reducible first | exact HI0.out | apply IsS86.alloc | apply IsS86.drewN | apply IsS86.drew | apply IsS86.set_0 | apply IsS86.set_1 | apply IsS86.set_2 | apply IsS86.set_3 | refine IsS86.far ?_ NB0_101.out _ | refine IsS86.far ?_ NB0_107.out _) | exact HI0.out), by repeat (first | (with_reducible first | exact HB.out | apply below_alloc | apply pw_below_drewN | apply below_drew1 | refine below_set ?_ (IsS86.ge HI0.out) | refine below_set ?_ GE101.out | refine below_set ?_ GE107.out) | exact HB.out), by repeat (first | (with_reducible first | exact HK.out | apply KeepBut.set_ | apply keep_drewN | apply keep_drew | apply keep_alloc | refine keep_far ?_ GW101.out _ | refine keep_far ?_ GW107.out _) | exact HK.out)⟩
  rw [if_neg c4] at H
  have c4b0 : (t108 == 255) = false := beq_eq_false_iff_ne.mpr c4
  have c4b1 : (t108 != 255) = true := bne_iff_ne.mpr c4
  by_cases c21 : t108 ≥ 240
  · rw [if_pos c21] at H
    have c21b0 : decide (240 ≤ t108) = true := decide_eq_true c21
    clear c21
    replace H := Option.bind_eq_some_iff.mp H
    obtain ⟨⟨t123, t124, t125, t126, t127⟩, A220, H⟩ := H
    try dsimp -simprocs only at H
    have A22 := Aside0.mk A220
    clear A220
    simp only [Option.some.injEq, Prod.mk.injEq] at H
    obtain ⟨rfl, rfl, rfl, rfl, rfl, rfl, rfl, rfl, rfl, rfl⟩ := H
    go_enter Try.func66, Try.ntmps66
    go_wp2_with (first | ((with_reducible refine gate_dst (N := 2) rfl ?_); refine box_event ?hg (N := 2) ?hd (cs := #[.int .i64 0, .int .i64 0, .int .i64 0, .int .i64 0, .int .i64 0, .string (⟨#[]⟩ : ByteArray)]) (t := 28) ?hr ?_; (case hd => rfl); (case hg => rfl); (case hr => exact qq6); intro gb101 hg w23 hbox hb; replace HB := Aside0.mk (below_step (by repeat (first | (with_reducible first | exact HB.out | apply below_alloc | apply pw_below_drewN | apply below_drew1 | refine below_set ?_ (IsS86.ge HI0.out)) | exact HB.out)) hb); have BK101 := Aside0.mk (hbox); have GW101 := Aside0.mk ((qqH : w.heap.size ≤ gb101)); have GE101 := Aside0.mk ((Nat.le_trans HW0.out (qqH : w.heap.size ≤ gb101) : w0.heap.size ≤ gb101)); replace HK := Aside0.mk (KeepBut.trans qq3 (KeepBut.of_below hb g none) (.inl rfl)); have NB0_101 := Aside0.mk ((qqp : g ≠ gb101)); have NB101_0 := Aside0.mk ((qqq : gb101 ≠ g)); replace HI0 := Aside0.mk (IsS86.below qq2 hb); clear hb hbox hg) | ((with_reducible refine gate_callee (f := 70) rfl ?_); refine goesL_ (some 6) rfl rfl Try.func70 (by kernel_rfl) rfl #[.pointer (some ⟨g, 0, none⟩)] rfl qq0 ?_; (with_reducible refine (wire_reader_number.calls k g s0_0 s0_1 s0_2 s0_3 t102 t103 t104 t105 t106 w0 _ ?side1 ?side2 A2.out).mono ?_); (case side1 => repeat (first | (with_reducible first | exact HI0.out | apply IsS86.alloc | apply IsS86.drewN | apply IsS86.drew | apply IsS86.set_0 | apply IsS86.set_1 | apply IsS86.set_2 | apply IsS86.set_3 | refine IsS86.far ?_ NB0_101.out _) | exact HI0.out)); (case side2 => repeat (first | (with_reducible first | exact HB.out | apply below_alloc | apply pw_below_drewN | apply below_drew1 | refine below_set ?_ (IsS86.ge HI0.out) | refine below_set ?_ GE101.out) | exact HB.out)); rintro e w24 ⟨rfl, hi, hb, hk⟩; refine ⟨_, rfl, ?_⟩; replace BK101 := Aside0.mk (KeepBut.blk hk (g' := gb101) (o := .cells #[.int .i64 0, .int .i64 0, .int .i64 0, .int .i64 0, .int .i64 0, .string (⟨#[]⟩ : ByteArray)] 28 (0, 0)) (bq BK101.out) NB101_0.out (by simp)); replace HK := Aside0.mk (KeepBut.trans (by repeat (first | (with_reducible first | exact HK.out | apply KeepBut.set_ | apply keep_drewN | apply keep_drew | apply keep_alloc | refine keep_far ?_ GW101.out _) | exact HK.out)) hk (.inl rfl)); replace HB := Aside0.mk (hb); replace HI0 := Aside0.mk (hi); (try clear hb); (try clear hb2); (try clear hk); (try clear hi)) | ((with_reducible refine gate_dst (N := 3) rfl ?_); refine box_event ?hg (N := 3) ?hd (cs := #[.int .i64 0, .int .i64 0, .int .i64 0, .int .i64 0, .int .i64 0, .string (⟨#[]⟩ : ByteArray)]) (t := 28) ?hr ?_; (case hd => rfl); (case hg => rfl); (case hr => exact qq6); intro gb107 hg w25 hbox hb; replace HB := Aside0.mk (below_step (by repeat (first | (with_reducible first | exact HB.out | apply below_alloc | apply pw_below_drewN | apply below_drew1 | refine below_set ?_ (IsS86.ge HI0.out) | refine below_set ?_ GE101.out) | exact HB.out)) hb); have BK107 := Aside0.mk (hbox); have GW107 := Aside0.mk ((by rw [hg]; exact (keep_size (w := w) (g := g) (row := none) (by repeat (first | (with_reducible first | exact HK.out | apply KeepBut.set_ | apply keep_drewN | apply keep_drew | apply keep_alloc | refine keep_far ?_ GW101.out _) | exact HK.out))) : w.heap.size ≤ gb107)); have GE107 := Aside0.mk ((Nat.le_trans HW0.out (by rw [hg]; exact (keep_size (w := w) (g := g) (row := none) (by repeat (first | (with_reducible first | exact HK.out | apply KeepBut.set_ | apply keep_drewN | apply keep_drew | apply keep_alloc | refine keep_far ?_ GW101.out _) | exact HK.out))) : w.heap.size ≤ gb107) : w0.heap.size ≤ gb107)); replace HK := Aside0.mk (KeepBut.trans (by repeat (first | (with_reducible first | exact HK.out | apply KeepBut.set_ | apply keep_drewN | apply keep_drew | apply keep_alloc | refine keep_far ?_ GW101.out _) | exact HK.out)) (KeepBut.of_below hb g none) (.inl rfl)); have NB101_107 := Aside0.mk ((qqb : gb101 ≠ gb107)); have NB107_101 := Aside0.mk ((qqc : gb107 ≠ gb101)); replace BK101 := Aside0.mk (blk_below (bq BK101.out) hb); have NB0_107 := Aside0.mk ((by rw [hg]; exact Nat.ne_of_lt (IsS86.lt (show IsS86 w0 _ g t103 t104 t105 t106 from by repeat (first | (with_reducible first | exact HI0.out | apply IsS86.alloc | apply IsS86.drewN | apply IsS86.drew | apply IsS86.set_0 | apply IsS86.set_1 | apply IsS86.set_2 | apply IsS86.set_3 | refine IsS86.far ?_ NB0_101.out _) | exact HI0.out))) : g ≠ gb107)); have NB107_0 := Aside0.mk ((by rw [hg]; exact Nat.ne_of_gt (IsS86.lt (show IsS86 w0 _ g t103 t104 t105 t106 from by repeat (first | (with_reducible first | exact HI0.out | apply IsS86.alloc | apply IsS86.drewN | apply IsS86.drew | apply IsS86.set_0 | apply IsS86.set_1 | apply IsS86.set_2 | apply IsS86.set_3 | refine IsS86.far ?_ NB0_101.out _) | exact HI0.out))) : gb107 ≠ g)); replace HI0 := Aside0.mk (IsS86.below (by repeat (first | (with_reducible first | exact HI0.out | apply IsS86.alloc | apply IsS86.drewN | apply IsS86.drew | apply IsS86.set_0 | apply IsS86.set_1 | apply IsS86.set_2 | apply IsS86.set_3 | refine IsS86.far ?_ NB0_101.out _) | exact HI0.out)) hb); clear hb hbox hg; have hnb26 := NB107_101.out; have hnc26 := NB101_107.out; have hnb27 := NB107_0.out; have hnc27 := NB0_107.out; obtain ⟨hcz28_0, hcz28_1, hcz28_2, hcz28_3, hcz28_4, hcz28_5, hfz28_0, hfz28_1, hfz28_2, hfz28_3, hfz28_4, hfz28_5⟩ := blk6 BK107.out) | ((with_reducible refine gate_callee (f := 71) rfl ?_); refine goesL_ (some 9) rfl rfl Try.func71 (by kernel_rfl) rfl #[.pointer (some ⟨g, 0, none⟩)] rfl qq0 ?_; (with_reducible refine (wire_reader_status.calls g t103 t104 t105 t106 t108 t109 t110 t111 t112 w0 _ ?side1 ?side2 A3.out).mono ?_); (case side1 => repeat (first | (with_reducible first | exact HI0.out | apply IsS86.alloc | apply IsS86.drewN | apply IsS86.drew | apply IsS86.set_0 | apply IsS86.set_1 | apply IsS86.set_2 | apply IsS86.set_3 | refine IsS86.far ?_ NB0_101.out _ | refine IsS86.far ?_ NB0_107.out _) | exact HI0.out)); (case side2 => repeat (first | (with_reducible first | exact HB.out | apply below_alloc | apply pw_below_drewN | apply below_drew1 | refine below_set ?_ (IsS86.ge HI0.out) | refine below_set ?_ GE101.out | refine below_set ?_ GE107.out) | exact HB.out)); rintro e w29 ⟨rfl, hi, hb, hk⟩; refine ⟨_, rfl, ?_⟩; replace BK101 := Aside0.mk (KeepBut.blk hk (g' := gb101) (o := .cells #[.int .i64 0, .int .i64 0, .int .i64 0, .int .i64 0, .int .i64 0, .string (⟨#[]⟩ : ByteArray)] 28 (0, 0)) (by refine bq ?_; refine blk_far ?_ NB101_107.out _; refine bq ?_; refine blk_far ?_ NB101_107.out _; refine bq ?_; refine blk_far ?_ NB101_107.out _; refine bq ?_; refine blk_far ?_ NB101_107.out _; refine bq ?_; refine blk_far ?_ NB101_107.out _; refine bq ?_; refine blk_far ?_ NB101_107.out _; exact bq BK101.out) NB101_0.out (by simp)); replace BK107 := Aside0.mk (KeepBut.blk hk (g' := gb107) (o := .cells #[.int .i64 t102, .int .i64 0, .int .i64 0, .int .i64 0, .int .i64 0, .string (⟨#[]⟩ : ByteArray)] 28 (0, 0)) (by refine bq ?_; refine blk_put (cs := #[.int .i64 t102, .int .i64 0, .int .i64 0, .int .i64 0, .int .i64 0, .string (⟨#[]⟩ : ByteArray)]) ?_ 5 _ rfl; refine bq ?_; refine blk_put (cs := #[.int .i64 t102, .int .i64 0, .int .i64 0, .int .i64 0, .int .i64 0, .string (⟨#[]⟩ : ByteArray)]) ?_ 4 _ rfl; refine bq ?_; refine blk_put (cs := #[.int .i64 t102, .int .i64 0, .int .i64 0, .int .i64 0, .int .i64 0, .string (⟨#[]⟩ : ByteArray)]) ?_ 3 _ rfl; refine bq ?_; refine blk_put (cs := #[.int .i64 t102, .int .i64 0, .int .i64 0, .int .i64 0, .int .i64 0, .string (⟨#[]⟩ : ByteArray)]) ?_ 2 _ rfl; refine bq ?_; refine blk_put (cs := #[.int .i64 t102, .int .i64 0, .int .i64 0, .int .i64 0, .int .i64 0, .string (⟨#[]⟩ : ByteArray)]) ?_ 1 _ rfl; refine bq ?_; refine blk_put (cs := #[.int .i64 0, .int .i64 0, .int .i64 0, .int .i64 0, .int .i64 0, .string (⟨#[]⟩ : ByteArray)]) ?_ 0 _ rfl; exact bq BK107.out) NB107_0.out (by simp)); replace HK := Aside0.mk (KeepBut.trans (by repeat (first | (with_reducible first | exact HK.out | apply KeepBut.set_ | apply keep_drewN | apply keep_drew | apply keep_alloc | refine keep_far ?_ GW101.out _ | refine keep_far ?_ GW107.out _) | exact HK.out)) hk (.inl rfl)); replace HB := Aside0.mk (hb); replace HI0 := Aside0.mk (hi); (try clear hb); (try clear hb2); (try clear hk); (try clear hi); obtain ⟨HGz30, hgz30⟩ := HI0.out; have hcz30_0 := cellS86_0 HGz30; have hcz30_1 := cellS86_1 HGz30; have hcz30_2 := cellS86_2 HGz30; have hcz30_3 := cellS86_3 HGz30; have hfz30_0 := blk_frozen HGz30 0; have hfz30_1 := blk_frozen HGz30 1; have hfz30_2 := blk_frozen HGz30 2; have hfz30_3 := blk_frozen HGz30 3; clear HGz30 hgz30; obtain ⟨hcz31_0, hcz31_1, hcz31_2, hcz31_3, hcz31_4, hcz31_5, hfz31_0, hfz31_1, hfz31_2, hfz31_3, hfz31_4, hfz31_5⟩ := blk6 BK107.out) | ((with_reducible refine gate_callee (f := 73) rfl ?_); refine goesL_ (some 50) rfl rfl Try.func73 (by kernel_rfl) rfl #[.pointer (some ⟨g, 0, none⟩)] rfl qq0 ?_; (with_reducible refine (wire_reader_bytes.calls k g t109 t110 0 t112 t123 t124 t125 t126 t127 w0 _ ?side1 ?side2 A22.out).mono ?_); (case side1 => repeat (first | (with_reducible first | exact HI0.out | apply IsS86.alloc | apply IsS86.drewN | apply IsS86.drew | apply IsS86.set_0 | apply IsS86.set_1 | apply IsS86.set_2 | apply IsS86.set_3 | refine IsS86.far ?_ NB0_101.out _ | refine IsS86.far ?_ NB0_107.out _) | exact HI0.out)); (case side2 => repeat (first | (with_reducible first | exact HB.out | apply below_alloc | apply pw_below_drewN | apply below_drew1 | refine below_set ?_ (IsS86.ge HI0.out) | refine below_set ?_ GE101.out | refine below_set ?_ GE107.out) | exact HB.out)); rintro e w32 ⟨rfl, hi, hb, hk⟩; refine ⟨_, rfl, ?_⟩; replace BK101 := Aside0.mk (KeepBut.blk hk (g' := gb101) (o := .cells #[.int .i64 0, .int .i64 0, .int .i64 0, .int .i64 0, .int .i64 0, .string (⟨#[]⟩ : ByteArray)] 28 (0, 0)) (by refine bq ?_; refine blk_far ?_ NB101_107.out _; refine bq ?_; refine blk_far ?_ NB101_107.out _; refine bq ?_; refine blk_far ?_ NB101_0.out _; exact bq BK101.out) NB101_0.out (by simp)); replace BK107 := Aside0.mk (KeepBut.blk hk (g' := gb107) (o := .cells #[.int .i64 t102, .int .i64 15, .int .i64 0, .int .i64 t108, .int .i64 0, .string (⟨#[]⟩ : ByteArray)] 28 (0, 0)) (by refine bq ?_; refine blk_put (cs := #[.int .i64 t102, .int .i64 15, .int .i64 0, .int .i64 0, .int .i64 0, .string (⟨#[]⟩ : ByteArray)]) ?_ 3 _ rfl; refine bq ?_; refine blk_put (cs := #[.int .i64 t102, .int .i64 0, .int .i64 0, .int .i64 0, .int .i64 0, .string (⟨#[]⟩ : ByteArray)]) ?_ 1 _ rfl; refine bq ?_; refine blk_far ?_ NB107_0.out _; exact bq BK107.out) NB107_0.out (by simp)); replace HK := Aside0.mk (KeepBut.trans (by repeat (first | (with_reducible first | exact HK.out | apply KeepBut.set_ | apply keep_drewN | apply keep_drew | apply keep_alloc | refine keep_far ?_ GW101.out _ | refine keep_far ?_ GW107.out _) | exact HK.out)) hk (.inl rfl)); replace HB := Aside0.mk (hb); replace HI0 := Aside0.mk (hi); (try clear hb); (try clear hb2); (try clear hk); (try clear hi); obtain ⟨hcz33_0, hcz33_1, hcz33_2, hcz33_3, hcz33_4, hcz33_5, hfz33_0, hfz33_1, hfz33_2, hfz33_3, hfz33_4, hfz33_5⟩ := blk6 BK107.out; have hnb34 := NB101_0.out; have hnc34 := NB0_101.out; obtain ⟨hcz35_0, hcz35_1, hcz35_2, hcz35_3, hcz35_4, hcz35_5, hfz35_0, hfz35_1, hfz35_2, hfz35_3, hfz35_4, hfz35_5⟩ := blk6 BK101.out))
    refine bodyPost_ret (results_cell_row rfl _ _ gb101 28 #[.int .i64 t102, .int .i64 15, .int .i64 0, .int .i64 t108, .int .i64 0, .string t123] (0, 0) _ rfl (by refine bq ?_; refine blk_put (cs := #[.int .i64 t102, .int .i64 15, .int .i64 0, .int .i64 t108, .int .i64 0, .string (⟨#[]⟩ : ByteArray)]) ?_ 5 _ rfl; refine bq ?_; refine blk_put (cs := #[.int .i64 t102, .int .i64 15, .int .i64 0, .int .i64 t108, .int .i64 0, .string (⟨#[]⟩ : ByteArray)]) ?_ 4 _ rfl; refine bq ?_; refine blk_put (cs := #[.int .i64 t102, .int .i64 15, .int .i64 0, .int .i64 0, .int .i64 0, .string (⟨#[]⟩ : ByteArray)]) ?_ 3 _ rfl; refine bq ?_; refine blk_put (cs := #[.int .i64 t102, .int .i64 15, .int .i64 0, .int .i64 0, .int .i64 0, .string (⟨#[]⟩ : ByteArray)]) ?_ 2 _ rfl; refine bq ?_; refine blk_put (cs := #[.int .i64 t102, .int .i64 0, .int .i64 0, .int .i64 0, .int .i64 0, .string (⟨#[]⟩ : ByteArray)]) ?_ 1 _ rfl; refine bq ?_; refine blk_put (cs := #[.int .i64 0, .int .i64 0, .int .i64 0, .int .i64 0, .int .i64 0, .string (⟨#[]⟩ : ByteArray)]) ?_ 0 _ rfl; refine bq ?_; refine blk_far ?_ NB101_107.out _; exact bq BK101.out) Try.underlying28 rfl (by kernel_rfl)) rfl ?_
    exact ⟨qq5, by repeat (first | (with_reducible first | exact HI0.out | apply IsS86.alloc | apply IsS86.drewN | apply IsS86.drew | apply IsS86.set_0 | apply IsS86.set_1 | apply IsS86.set_2 | apply IsS86.set_3 | refine IsS86.far ?_ NB0_101.out _ | refine IsS86.far ?_ NB0_107.out _) | exact HI0.out), by repeat (first | (with_reducible first | exact HB.out | apply below_alloc | apply pw_below_drewN | apply below_drew1 | refine below_set ?_ (IsS86.ge HI0.out) | refine below_set ?_ GE101.out | refine below_set ?_ GE107.out) | exact HB.out), by repeat (first | (with_reducible first | exact HK.out | apply KeepBut.set_ | apply keep_drewN | apply keep_drew | apply keep_alloc | refine keep_far ?_ GW101.out _ | refine keep_far ?_ GW107.out _) | exact HK.out)⟩
  rw [if_neg c21] at H
  have c21b0 : decide (240 ≤ t108) = false := decide_eq_false c21
  clear c21
  replace H := Option.bind_eq_some_iff.mp H
  obtain ⟨⟨t128, t129, t130, t131, t132⟩, A360, H⟩ := H
  try dsimp -simprocs only at H
  have A36 := Aside0.mk A360
  clear A360
  replace H := Option.bind_eq_some_iff.mp H
  obtain ⟨t133, A370, H⟩ := H
  try dsimp -simprocs only at H
  have A37 := Aside0.mk A370
  clear A370
  by_cases c38 : t133 = true
  · subst c38
    have H1 : (some (t102, wrap64 (Int.tdiv t108 16), Int.tmod t108 16, t128, 0, (⟨#[]⟩ : ByteArray), t129, t130, t131, t132)) = some (r1, r2, r3, r4, r5, r6, r7, r8, r9, r10) := by rw [if_pos rfl] at H; exact H
    clear H
    have H := H1
    clear H1
    simp only [Option.some.injEq, Prod.mk.injEq] at H
    obtain ⟨rfl, rfl, rfl, rfl, rfl, rfl, rfl, rfl, rfl, rfl⟩ := H
    go_enter Try.func66, Try.ntmps66
    go_wp2_with (first | ((with_reducible refine gate_dst (N := 2) rfl ?_); refine box_event ?hg (N := 2) ?hd (cs := #[.int .i64 0, .int .i64 0, .int .i64 0, .int .i64 0, .int .i64 0, .string (⟨#[]⟩ : ByteArray)]) (t := 28) ?hr ?_; (case hd => rfl); (case hg => rfl); (case hr => exact qq6); intro gb101 hg w39 hbox hb; replace HB := Aside0.mk (below_step (by repeat (first | (with_reducible first | exact HB.out | apply below_alloc | apply pw_below_drewN | apply below_drew1 | refine below_set ?_ (IsS86.ge HI0.out)) | exact HB.out)) hb); have BK101 := Aside0.mk (hbox); have GW101 := Aside0.mk ((qqH : w.heap.size ≤ gb101)); have GE101 := Aside0.mk ((Nat.le_trans HW0.out (qqH : w.heap.size ≤ gb101) : w0.heap.size ≤ gb101)); replace HK := Aside0.mk (KeepBut.trans qq3 (KeepBut.of_below hb g none) (.inl rfl)); have NB0_101 := Aside0.mk ((qqp : g ≠ gb101)); have NB101_0 := Aside0.mk ((qqq : gb101 ≠ g)); replace HI0 := Aside0.mk (IsS86.below qq2 hb); clear hb hbox hg) | ((with_reducible refine gate_callee (f := 70) rfl ?_); refine goesL_ (some 6) rfl rfl Try.func70 (by kernel_rfl) rfl #[.pointer (some ⟨g, 0, none⟩)] rfl qq0 ?_; (with_reducible refine (wire_reader_number.calls k g s0_0 s0_1 s0_2 s0_3 t102 t103 t104 t105 t106 w0 _ ?side1 ?side2 A2.out).mono ?_); (case side1 => repeat (first | (with_reducible first | exact HI0.out | apply IsS86.alloc | apply IsS86.drewN | apply IsS86.drew | apply IsS86.set_0 | apply IsS86.set_1 | apply IsS86.set_2 | apply IsS86.set_3 | refine IsS86.far ?_ NB0_101.out _) | exact HI0.out)); (case side2 => repeat (first | (with_reducible first | exact HB.out | apply below_alloc | apply pw_below_drewN | apply below_drew1 | refine below_set ?_ (IsS86.ge HI0.out) | refine below_set ?_ GE101.out) | exact HB.out)); rintro e w40 ⟨rfl, hi, hb, hk⟩; refine ⟨_, rfl, ?_⟩; replace BK101 := Aside0.mk (KeepBut.blk hk (g' := gb101) (o := .cells #[.int .i64 0, .int .i64 0, .int .i64 0, .int .i64 0, .int .i64 0, .string (⟨#[]⟩ : ByteArray)] 28 (0, 0)) (bq BK101.out) NB101_0.out (by simp)); replace HK := Aside0.mk (KeepBut.trans (by repeat (first | (with_reducible first | exact HK.out | apply KeepBut.set_ | apply keep_drewN | apply keep_drew | apply keep_alloc | refine keep_far ?_ GW101.out _) | exact HK.out)) hk (.inl rfl)); replace HB := Aside0.mk (hb); replace HI0 := Aside0.mk (hi); (try clear hb); (try clear hb2); (try clear hk); (try clear hi)) | ((with_reducible refine gate_dst (N := 3) rfl ?_); refine box_event ?hg (N := 3) ?hd (cs := #[.int .i64 0, .int .i64 0, .int .i64 0, .int .i64 0, .int .i64 0, .string (⟨#[]⟩ : ByteArray)]) (t := 28) ?hr ?_; (case hd => rfl); (case hg => rfl); (case hr => exact qq6); intro gb107 hg w41 hbox hb; replace HB := Aside0.mk (below_step (by repeat (first | (with_reducible first | exact HB.out | apply below_alloc | apply pw_below_drewN | apply below_drew1 | refine below_set ?_ (IsS86.ge HI0.out) | refine below_set ?_ GE101.out) | exact HB.out)) hb); have BK107 := Aside0.mk (hbox); have GW107 := Aside0.mk ((by rw [hg]; exact (keep_size (w := w) (g := g) (row := none) (by repeat (first | (with_reducible first | exact HK.out | apply KeepBut.set_ | apply keep_drewN | apply keep_drew | apply keep_alloc | refine keep_far ?_ GW101.out _) | exact HK.out))) : w.heap.size ≤ gb107)); have GE107 := Aside0.mk ((Nat.le_trans HW0.out (by rw [hg]; exact (keep_size (w := w) (g := g) (row := none) (by repeat (first | (with_reducible first | exact HK.out | apply KeepBut.set_ | apply keep_drewN | apply keep_drew | apply keep_alloc | refine keep_far ?_ GW101.out _) | exact HK.out))) : w.heap.size ≤ gb107) : w0.heap.size ≤ gb107)); replace HK := Aside0.mk (KeepBut.trans (by repeat (first | (with_reducible first | exact HK.out | apply KeepBut.set_ | apply keep_drewN | apply keep_drew | apply keep_alloc | refine keep_far ?_ GW101.out _) | exact HK.out)) (KeepBut.of_below hb g none) (.inl rfl)); have NB101_107 := Aside0.mk ((qqb : gb101 ≠ gb107)); have NB107_101 := Aside0.mk ((qqc : gb107 ≠ gb101)); replace BK101 := Aside0.mk (blk_below (bq BK101.out) hb); have NB0_107 := Aside0.mk ((by rw [hg]; exact Nat.ne_of_lt (IsS86.lt (show IsS86 w0 _ g t103 t104 t105 t106 from by repeat (first | (with_reducible first | exact HI0.out | apply IsS86.alloc | apply IsS86.drewN | apply IsS86.drew | apply IsS86.set_0 | apply IsS86.set_1 | apply IsS86.set_2 | apply IsS86.set_3 | refine IsS86.far ?_ NB0_101.out _) | exact HI0.out))) : g ≠ gb107)); have NB107_0 := Aside0.mk ((by rw [hg]; exact Nat.ne_of_gt (IsS86.lt (show IsS86 w0 _ g t103 t104 t105 t106 from by repeat (first | (with_reducible first | exact HI0.out | apply IsS86.alloc | apply IsS86.drewN | apply IsS86.drew | apply IsS86.set_0 | apply IsS86.set_1 | apply IsS86.set_2 | apply IsS86.set_3 | refine IsS86.far ?_ NB0_101.out _) | exact HI0.out))) : gb107 ≠ g)); replace HI0 := Aside0.mk (IsS86.below (by repeat (first | (with_reducible first | exact HI0.out | apply IsS86.alloc | apply IsS86.drewN | apply IsS86.drew | apply IsS86.set_0 | apply IsS86.set_1 | apply IsS86.set_2 | apply IsS86.set_3 | refine IsS86.far ?_ NB0_101.out _) | exact HI0.out)) hb); clear hb hbox hg; have hnb42 := NB107_101.out; have hnc42 := NB101_107.out; have hnb43 := NB107_0.out; have hnc43 := NB0_107.out; obtain ⟨hcz44_0, hcz44_1, hcz44_2, hcz44_3, hcz44_4, hcz44_5, hfz44_0, hfz44_1, hfz44_2, hfz44_3, hfz44_4, hfz44_5⟩ := blk6 BK107.out) | ((with_reducible refine gate_callee (f := 71) rfl ?_); refine goesL_ (some 9) rfl rfl Try.func71 (by kernel_rfl) rfl #[.pointer (some ⟨g, 0, none⟩)] rfl qq0 ?_; (with_reducible refine (wire_reader_status.calls g t103 t104 t105 t106 t108 t109 t110 t111 t112 w0 _ ?side1 ?side2 A3.out).mono ?_); (case side1 => repeat (first | (with_reducible first | exact HI0.out | apply IsS86.alloc | apply IsS86.drewN | apply IsS86.drew | apply IsS86.set_0 | apply IsS86.set_1 | apply IsS86.set_2 | apply IsS86.set_3 | refine IsS86.far ?_ NB0_101.out _ | refine IsS86.far ?_ NB0_107.out _) | exact HI0.out)); (case side2 => repeat (first | (with_reducible first | exact HB.out | apply below_alloc | apply pw_below_drewN | apply below_drew1 | refine below_set ?_ (IsS86.ge HI0.out) | refine below_set ?_ GE101.out | refine below_set ?_ GE107.out) | exact HB.out)); rintro e w45 ⟨rfl, hi, hb, hk⟩; refine ⟨_, rfl, ?_⟩; replace BK101 := Aside0.mk (KeepBut.blk hk (g' := gb101) (o := .cells #[.int .i64 0, .int .i64 0, .int .i64 0, .int .i64 0, .int .i64 0, .string (⟨#[]⟩ : ByteArray)] 28 (0, 0)) (by refine bq ?_; refine blk_far ?_ NB101_107.out _; refine bq ?_; refine blk_far ?_ NB101_107.out _; refine bq ?_; refine blk_far ?_ NB101_107.out _; refine bq ?_; refine blk_far ?_ NB101_107.out _; refine bq ?_; refine blk_far ?_ NB101_107.out _; refine bq ?_; refine blk_far ?_ NB101_107.out _; exact bq BK101.out) NB101_0.out (by simp)); replace BK107 := Aside0.mk (KeepBut.blk hk (g' := gb107) (o := .cells #[.int .i64 t102, .int .i64 0, .int .i64 0, .int .i64 0, .int .i64 0, .string (⟨#[]⟩ : ByteArray)] 28 (0, 0)) (by refine bq ?_; refine blk_put (cs := #[.int .i64 t102, .int .i64 0, .int .i64 0, .int .i64 0, .int .i64 0, .string (⟨#[]⟩ : ByteArray)]) ?_ 5 _ rfl; refine bq ?_; refine blk_put (cs := #[.int .i64 t102, .int .i64 0, .int .i64 0, .int .i64 0, .int .i64 0, .string (⟨#[]⟩ : ByteArray)]) ?_ 4 _ rfl; refine bq ?_; refine blk_put (cs := #[.int .i64 t102, .int .i64 0, .int .i64 0, .int .i64 0, .int .i64 0, .string (⟨#[]⟩ : ByteArray)]) ?_ 3 _ rfl; refine bq ?_; refine blk_put (cs := #[.int .i64 t102, .int .i64 0, .int .i64 0, .int .i64 0, .int .i64 0, .string (⟨#[]⟩ : ByteArray)]) ?_ 2 _ rfl; refine bq ?_; refine blk_put (cs := #[.int .i64 t102, .int .i64 0, .int .i64 0, .int .i64 0, .int .i64 0, .string (⟨#[]⟩ : ByteArray)]) ?_ 1 _ rfl; refine bq ?_; refine blk_put (cs := #[.int .i64 0, .int .i64 0, .int .i64 0, .int .i64 0, .int .i64 0, .string (⟨#[]⟩ : ByteArray)]) ?_ 0 _ rfl; exact bq BK107.out) NB107_0.out (by simp)); replace HK := Aside0.mk (KeepBut.trans (by repeat (first | (with_reducible first | exact HK.out | apply KeepBut.set_ | apply keep_drewN | apply keep_drew | apply keep_alloc | refine keep_far ?_ GW101.out _ | refine keep_far ?_ GW107.out _) | exact HK.out)) hk (.inl rfl)); replace HB := Aside0.mk (hb); replace HI0 := Aside0.mk (hi); (try clear hb); (try clear hb2); (try clear hk); (try clear hi); obtain ⟨HGz46, hgz46⟩ := HI0.out; have hcz46_0 := cellS86_0 HGz46; have hcz46_1 := cellS86_1 HGz46; have hcz46_2 := cellS86_2 HGz46; have hcz46_3 := cellS86_3 HGz46; have hfz46_0 := blk_frozen HGz46 0; have hfz46_1 := blk_frozen HGz46 1; have hfz46_2 := blk_frozen HGz46 2; have hfz46_3 := blk_frozen HGz46 3; clear HGz46 hgz46) | ((with_reducible refine gate_callee (f := 72) rfl ?_); refine goesL_ (some 22) rfl rfl Try.func72 (by kernel_rfl) rfl #[.pointer (some ⟨g, 0, none⟩)] rfl qq0 ?_; (with_reducible refine (wire_reader_data.calls g t109 t110 t108 t112 t128 t129 t130 t131 t132 w0 _ ?side1 ?side2 A36.out).mono ?_); (case side1 => repeat (first | (with_reducible first | exact HI0.out | apply IsS86.alloc | apply IsS86.drewN | apply IsS86.drew | apply IsS86.set_0 | apply IsS86.set_1 | apply IsS86.set_2 | apply IsS86.set_3 | refine IsS86.far ?_ NB0_101.out _ | refine IsS86.far ?_ NB0_107.out _) | exact HI0.out)); (case side2 => repeat (first | (with_reducible first | exact HB.out | apply below_alloc | apply pw_below_drewN | apply below_drew1 | refine below_set ?_ (IsS86.ge HI0.out) | refine below_set ?_ GE101.out | refine below_set ?_ GE107.out) | exact HB.out)); rintro e w47 ⟨rfl, hi, hb, hk⟩; refine ⟨_, rfl, ?_⟩; replace BK101 := Aside0.mk (KeepBut.blk hk (g' := gb101) (o := .cells #[.int .i64 0, .int .i64 0, .int .i64 0, .int .i64 0, .int .i64 0, .string (⟨#[]⟩ : ByteArray)] 28 (0, 0)) (by refine bq ?_; refine blk_far ?_ NB101_0.out _; refine bq ?_; refine blk_far ?_ NB101_0.out _; exact bq BK101.out) NB101_0.out (by simp)); replace BK107 := Aside0.mk (KeepBut.blk hk (g' := gb107) (o := .cells #[.int .i64 t102, .int .i64 0, .int .i64 0, .int .i64 0, .int .i64 0, .string (⟨#[]⟩ : ByteArray)] 28 (0, 0)) (by refine bq ?_; refine blk_far ?_ NB107_0.out _; refine bq ?_; refine blk_far ?_ NB107_0.out _; exact bq BK107.out) NB107_0.out (by simp)); replace HK := Aside0.mk (KeepBut.trans (by repeat (first | (with_reducible first | exact HK.out | apply KeepBut.set_ | apply keep_drewN | apply keep_drew | apply keep_alloc | refine keep_far ?_ GW101.out _ | refine keep_far ?_ GW107.out _) | exact HK.out)) hk (.inl rfl)); replace HB := Aside0.mk (hb); replace HI0 := Aside0.mk (hi); (try clear hb); (try clear hb2); (try clear hk); (try clear hi); obtain ⟨hcz48_0, hcz48_1, hcz48_2, hcz48_3, hcz48_4, hcz48_5, hfz48_0, hfz48_1, hfz48_2, hfz48_3, hfz48_4, hfz48_5⟩ := blk6 BK107.out) | ((with_reducible refine gate_callee (f := 37) rfl ?_); refine goesL_ (some 28) rfl rfl Try.func37 (by kernel_rfl) rfl #[.int .i64 (wrap64 (Int.tdiv t108 16))] rfl qq0 ?_; (with_reducible refine (wire_one.calls (wrap64 (Int.tdiv t108 16)) true _ A37.out).mono ?_); rintro e w' ⟨rfl, ⟨nd, rfl⟩⟩; refine ⟨_, rfl, ?_⟩; have hnb49 := NB101_0.out; have hnc49 := NB0_101.out; obtain ⟨hcz50_0, hcz50_1, hcz50_2, hcz50_3, hcz50_4, hcz50_5, hfz50_0, hfz50_1, hfz50_2, hfz50_3, hfz50_4, hfz50_5⟩ := blk6 BK101.out))
    refine bodyPost_ret (results_cell_row rfl _ _ gb101 28 #[.int .i64 t102, .int .i64 (wrap64 (Int.tdiv t108 16)), .int .i64 (Int.tmod t108 16), .int .i64 t128, .int .i64 0, .string (⟨#[]⟩ : ByteArray)] (0, 0) _ rfl (by refine bq ?_; refine blk_put (cs := #[.int .i64 t102, .int .i64 (wrap64 (Int.tdiv t108 16)), .int .i64 (Int.tmod t108 16), .int .i64 t128, .int .i64 0, .string (⟨#[]⟩ : ByteArray)]) ?_ 5 _ rfl; refine bq ?_; refine blk_put (cs := #[.int .i64 t102, .int .i64 (wrap64 (Int.tdiv t108 16)), .int .i64 (Int.tmod t108 16), .int .i64 t128, .int .i64 0, .string (⟨#[]⟩ : ByteArray)]) ?_ 4 _ rfl; refine bq ?_; refine blk_put (cs := #[.int .i64 t102, .int .i64 (wrap64 (Int.tdiv t108 16)), .int .i64 (Int.tmod t108 16), .int .i64 0, .int .i64 0, .string (⟨#[]⟩ : ByteArray)]) ?_ 3 _ rfl; refine bq ?_; refine blk_put (cs := #[.int .i64 t102, .int .i64 (wrap64 (Int.tdiv t108 16)), .int .i64 0, .int .i64 0, .int .i64 0, .string (⟨#[]⟩ : ByteArray)]) ?_ 2 _ rfl; refine bq ?_; refine blk_put (cs := #[.int .i64 t102, .int .i64 0, .int .i64 0, .int .i64 0, .int .i64 0, .string (⟨#[]⟩ : ByteArray)]) ?_ 1 _ rfl; refine bq ?_; refine blk_put (cs := #[.int .i64 0, .int .i64 0, .int .i64 0, .int .i64 0, .int .i64 0, .string (⟨#[]⟩ : ByteArray)]) ?_ 0 _ rfl; refine bq ?_; refine blk_far ?_ NB101_107.out _; refine bq ?_; refine blk_far ?_ NB101_107.out _; refine bq ?_; refine blk_far ?_ NB101_107.out _; exact bq BK101.out) Try.underlying28 rfl (by kernel_rfl)) rfl ?_
    exact ⟨qq5, by repeat (first | (with_reducible first | exact HI0.out | apply IsS86.alloc | apply IsS86.drewN | apply IsS86.drew | apply IsS86.set_0 | apply IsS86.set_1 | apply IsS86.set_2 | apply IsS86.set_3 | refine IsS86.far ?_ NB0_101.out _ | refine IsS86.far ?_ NB0_107.out _) | exact HI0.out), by repeat (first | (with_reducible first | exact HB.out | apply below_alloc | apply pw_below_drewN | apply below_drew1 | refine below_set ?_ (IsS86.ge HI0.out) | refine below_set ?_ GE101.out | refine below_set ?_ GE107.out) | exact HB.out), by repeat (first | (with_reducible first | exact HK.out | apply KeepBut.set_ | apply keep_drewN | apply keep_drew | apply keep_alloc | refine keep_far ?_ GW101.out _ | refine keep_far ?_ GW107.out _) | exact HK.out)⟩
  replace c38 := Bool.eq_false_iff.mpr c38
  subst c38
  have H1 : ((wire_reader_data.f t129 t130 t131 t132).bind fun bt134 => (some (t102, wrap64 (Int.tdiv t108 16), Int.tmod t108 16, t128, bt134.1, (⟨#[]⟩ : ByteArray), bt134.2.1, bt134.2.2.1, bt134.2.2.2.1, bt134.2.2.2.2))) = some (r1, r2, r3, r4, r5, r6, r7, r8, r9, r10) := by rw [if_neg (show ¬ (false = true) by decide)] at H; exact H
  clear H
  have H := H1
  clear H1
  replace H := Option.bind_eq_some_iff.mp H
  obtain ⟨⟨t134, t135, t136, t137, t138⟩, A510, H⟩ := H
  try dsimp -simprocs only at H
  have A51 := Aside0.mk A510
  clear A510
  simp only [Option.some.injEq, Prod.mk.injEq] at H
  obtain ⟨rfl, rfl, rfl, rfl, rfl, rfl, rfl, rfl, rfl, rfl⟩ := H
  go_enter Try.func66, Try.ntmps66
  go_wp2_with (first | ((with_reducible refine gate_dst (N := 2) rfl ?_); refine box_event ?hg (N := 2) ?hd (cs := #[.int .i64 0, .int .i64 0, .int .i64 0, .int .i64 0, .int .i64 0, .string (⟨#[]⟩ : ByteArray)]) (t := 28) ?hr ?_; (case hd => rfl); (case hg => rfl); (case hr => exact qq6); intro gb101 hg w52 hbox hb; replace HB := Aside0.mk (below_step (by repeat (first | (with_reducible first | exact HB.out | apply below_alloc | apply pw_below_drewN | apply below_drew1 | refine below_set ?_ (IsS86.ge HI0.out)) | exact HB.out)) hb); have BK101 := Aside0.mk (hbox); have GW101 := Aside0.mk ((qqH : w.heap.size ≤ gb101)); have GE101 := Aside0.mk ((Nat.le_trans HW0.out (qqH : w.heap.size ≤ gb101) : w0.heap.size ≤ gb101)); replace HK := Aside0.mk (KeepBut.trans qq3 (KeepBut.of_below hb g none) (.inl rfl)); have NB0_101 := Aside0.mk ((qqp : g ≠ gb101)); have NB101_0 := Aside0.mk ((qqq : gb101 ≠ g)); replace HI0 := Aside0.mk (IsS86.below qq2 hb); clear hb hbox hg) | ((with_reducible refine gate_callee (f := 70) rfl ?_); refine goesL_ (some 6) rfl rfl Try.func70 (by kernel_rfl) rfl #[.pointer (some ⟨g, 0, none⟩)] rfl qq0 ?_; (with_reducible refine (wire_reader_number.calls k g s0_0 s0_1 s0_2 s0_3 t102 t103 t104 t105 t106 w0 _ ?side1 ?side2 A2.out).mono ?_); (case side1 => repeat (first | (with_reducible first | exact HI0.out | apply IsS86.alloc | apply IsS86.drewN | apply IsS86.drew | apply IsS86.set_0 | apply IsS86.set_1 | apply IsS86.set_2 | apply IsS86.set_3 | refine IsS86.far ?_ NB0_101.out _) | exact HI0.out)); (case side2 => repeat (first | (with_reducible first | exact HB.out | apply below_alloc | apply pw_below_drewN | apply below_drew1 | refine below_set ?_ (IsS86.ge HI0.out) | refine below_set ?_ GE101.out) | exact HB.out)); rintro e w53 ⟨rfl, hi, hb, hk⟩; refine ⟨_, rfl, ?_⟩; replace BK101 := Aside0.mk (KeepBut.blk hk (g' := gb101) (o := .cells #[.int .i64 0, .int .i64 0, .int .i64 0, .int .i64 0, .int .i64 0, .string (⟨#[]⟩ : ByteArray)] 28 (0, 0)) (bq BK101.out) NB101_0.out (by simp)); replace HK := Aside0.mk (KeepBut.trans (by repeat (first | (with_reducible first | exact HK.out | apply KeepBut.set_ | apply keep_drewN | apply keep_drew | apply keep_alloc | refine keep_far ?_ GW101.out _) | exact HK.out)) hk (.inl rfl)); replace HB := Aside0.mk (hb); replace HI0 := Aside0.mk (hi); (try clear hb); (try clear hb2); (try clear hk); (try clear hi)) | ((with_reducible refine gate_dst (N := 3) rfl ?_); refine box_event ?hg (N := 3) ?hd (cs := #[.int .i64 0, .int .i64 0, .int .i64 0, .int .i64 0, .int .i64 0, .string (⟨#[]⟩ : ByteArray)]) (t := 28) ?hr ?_; (case hd => rfl); (case hg => rfl); (case hr => exact qq6); intro gb107 hg w54 hbox hb; replace HB := Aside0.mk (below_step (by repeat (first | (with_reducible first | exact HB.out | apply below_alloc | apply pw_below_drewN | apply below_drew1 | refine below_set ?_ (IsS86.ge HI0.out) | refine below_set ?_ GE101.out) | exact HB.out)) hb); have BK107 := Aside0.mk (hbox); have GW107 := Aside0.mk ((by rw [hg]; exact (keep_size (w := w) (g := g) (row := none) (by repeat (first | (with_reducible first | exact HK.out | apply KeepBut.set_ | apply keep_drewN | apply keep_drew | apply keep_alloc | refine keep_far ?_ GW101.out _) | exact HK.out))) : w.heap.size ≤ gb107)); have GE107 := Aside0.mk ((Nat.le_trans HW0.out (by rw [hg]; exact (keep_size (w := w) (g := g) (row := none) (by repeat (first | (with_reducible first | exact HK.out | apply KeepBut.set_ | apply keep_drewN | apply keep_drew | apply keep_alloc | refine keep_far ?_ GW101.out _) | exact HK.out))) : w.heap.size ≤ gb107) : w0.heap.size ≤ gb107)); replace HK := Aside0.mk (KeepBut.trans (by repeat (first | (with_reducible first | exact HK.out | apply KeepBut.set_ | apply keep_drewN | apply keep_drew | apply keep_alloc | refine keep_far ?_ GW101.out _) | exact HK.out)) (KeepBut.of_below hb g none) (.inl rfl)); have NB101_107 := Aside0.mk ((qqb : gb101 ≠ gb107)); have NB107_101 := Aside0.mk ((qqc : gb107 ≠ gb101)); replace BK101 := Aside0.mk (blk_below (bq BK101.out) hb); have NB0_107 := Aside0.mk ((by rw [hg]; exact Nat.ne_of_lt (IsS86.lt (show IsS86 w0 _ g t103 t104 t105 t106 from by repeat (first | (with_reducible first | exact HI0.out | apply IsS86.alloc | apply IsS86.drewN | apply IsS86.drew | apply IsS86.set_0 | apply IsS86.set_1 | apply IsS86.set_2 | apply IsS86.set_3 | refine IsS86.far ?_ NB0_101.out _) | exact HI0.out))) : g ≠ gb107)); have NB107_0 := Aside0.mk ((by rw [hg]; exact Nat.ne_of_gt (IsS86.lt (show IsS86 w0 _ g t103 t104 t105 t106 from by repeat (first | (with_reducible first | exact HI0.out | apply IsS86.alloc | apply IsS86.drewN | apply IsS86.drew | apply IsS86.set_0 | apply IsS86.set_1 | apply IsS86.set_2 | apply IsS86.set_3 | refine IsS86.far ?_ NB0_101.out _) | exact HI0.out))) : gb107 ≠ g)); replace HI0 := Aside0.mk (IsS86.below (by repeat (first | (with_reducible first | exact HI0.out | apply IsS86.alloc | apply IsS86.drewN | apply IsS86.drew | apply IsS86.set_0 | apply IsS86.set_1 | apply IsS86.set_2 | apply IsS86.set_3 | refine IsS86.far ?_ NB0_101.out _) | exact HI0.out)) hb); clear hb hbox hg; have hnb55 := NB107_101.out; have hnc55 := NB101_107.out; have hnb56 := NB107_0.out; have hnc56 := NB0_107.out; obtain ⟨hcz57_0, hcz57_1, hcz57_2, hcz57_3, hcz57_4, hcz57_5, hfz57_0, hfz57_1, hfz57_2, hfz57_3, hfz57_4, hfz57_5⟩ := blk6 BK107.out) | ((with_reducible refine gate_callee (f := 71) rfl ?_); refine goesL_ (some 9) rfl rfl Try.func71 (by kernel_rfl) rfl #[.pointer (some ⟨g, 0, none⟩)] rfl qq0 ?_; (with_reducible refine (wire_reader_status.calls g t103 t104 t105 t106 t108 t109 t110 t111 t112 w0 _ ?side1 ?side2 A3.out).mono ?_); (case side1 => repeat (first | (with_reducible first | exact HI0.out | apply IsS86.alloc | apply IsS86.drewN | apply IsS86.drew | apply IsS86.set_0 | apply IsS86.set_1 | apply IsS86.set_2 | apply IsS86.set_3 | refine IsS86.far ?_ NB0_101.out _ | refine IsS86.far ?_ NB0_107.out _) | exact HI0.out)); (case side2 => repeat (first | (with_reducible first | exact HB.out | apply below_alloc | apply pw_below_drewN | apply below_drew1 | refine below_set ?_ (IsS86.ge HI0.out) | refine below_set ?_ GE101.out | refine below_set ?_ GE107.out) | exact HB.out)); rintro e w58 ⟨rfl, hi, hb, hk⟩; refine ⟨_, rfl, ?_⟩; replace BK101 := Aside0.mk (KeepBut.blk hk (g' := gb101) (o := .cells #[.int .i64 0, .int .i64 0, .int .i64 0, .int .i64 0, .int .i64 0, .string (⟨#[]⟩ : ByteArray)] 28 (0, 0)) (by refine bq ?_; refine blk_far ?_ NB101_107.out _; refine bq ?_; refine blk_far ?_ NB101_107.out _; refine bq ?_; refine blk_far ?_ NB101_107.out _; refine bq ?_; refine blk_far ?_ NB101_107.out _; refine bq ?_; refine blk_far ?_ NB101_107.out _; refine bq ?_; refine blk_far ?_ NB101_107.out _; exact bq BK101.out) NB101_0.out (by simp)); replace BK107 := Aside0.mk (KeepBut.blk hk (g' := gb107) (o := .cells #[.int .i64 t102, .int .i64 0, .int .i64 0, .int .i64 0, .int .i64 0, .string (⟨#[]⟩ : ByteArray)] 28 (0, 0)) (by refine bq ?_; refine blk_put (cs := #[.int .i64 t102, .int .i64 0, .int .i64 0, .int .i64 0, .int .i64 0, .string (⟨#[]⟩ : ByteArray)]) ?_ 5 _ rfl; refine bq ?_; refine blk_put (cs := #[.int .i64 t102, .int .i64 0, .int .i64 0, .int .i64 0, .int .i64 0, .string (⟨#[]⟩ : ByteArray)]) ?_ 4 _ rfl; refine bq ?_; refine blk_put (cs := #[.int .i64 t102, .int .i64 0, .int .i64 0, .int .i64 0, .int .i64 0, .string (⟨#[]⟩ : ByteArray)]) ?_ 3 _ rfl; refine bq ?_; refine blk_put (cs := #[.int .i64 t102, .int .i64 0, .int .i64 0, .int .i64 0, .int .i64 0, .string (⟨#[]⟩ : ByteArray)]) ?_ 2 _ rfl; refine bq ?_; refine blk_put (cs := #[.int .i64 t102, .int .i64 0, .int .i64 0, .int .i64 0, .int .i64 0, .string (⟨#[]⟩ : ByteArray)]) ?_ 1 _ rfl; refine bq ?_; refine blk_put (cs := #[.int .i64 0, .int .i64 0, .int .i64 0, .int .i64 0, .int .i64 0, .string (⟨#[]⟩ : ByteArray)]) ?_ 0 _ rfl; exact bq BK107.out) NB107_0.out (by simp)); replace HK := Aside0.mk (KeepBut.trans (by repeat (first | (with_reducible first | exact HK.out | apply KeepBut.set_ | apply keep_drewN | apply keep_drew | apply keep_alloc | refine keep_far ?_ GW101.out _ | refine keep_far ?_ GW107.out _) | exact HK.out)) hk (.inl rfl)); replace HB := Aside0.mk (hb); replace HI0 := Aside0.mk (hi); (try clear hb); (try clear hb2); (try clear hk); (try clear hi); obtain ⟨HGz59, hgz59⟩ := HI0.out; have hcz59_0 := cellS86_0 HGz59; have hcz59_1 := cellS86_1 HGz59; have hcz59_2 := cellS86_2 HGz59; have hcz59_3 := cellS86_3 HGz59; have hfz59_0 := blk_frozen HGz59 0; have hfz59_1 := blk_frozen HGz59 1; have hfz59_2 := blk_frozen HGz59 2; have hfz59_3 := blk_frozen HGz59 3; clear HGz59 hgz59) | ((with_reducible refine gate_callee (f := 72) rfl ?_); refine goesL_ (some 22) rfl rfl Try.func72 (by kernel_rfl) rfl #[.pointer (some ⟨g, 0, none⟩)] rfl qq0 ?_; (with_reducible refine (wire_reader_data.calls g t109 t110 t108 t112 t128 t129 t130 t131 t132 w0 _ ?side1 ?side2 A36.out).mono ?_); (case side1 => repeat (first | (with_reducible first | exact HI0.out | apply IsS86.alloc | apply IsS86.drewN | apply IsS86.drew | apply IsS86.set_0 | apply IsS86.set_1 | apply IsS86.set_2 | apply IsS86.set_3 | refine IsS86.far ?_ NB0_101.out _ | refine IsS86.far ?_ NB0_107.out _) | exact HI0.out)); (case side2 => repeat (first | (with_reducible first | exact HB.out | apply below_alloc | apply pw_below_drewN | apply below_drew1 | refine below_set ?_ (IsS86.ge HI0.out) | refine below_set ?_ GE101.out | refine below_set ?_ GE107.out) | exact HB.out)); rintro e w60 ⟨rfl, hi, hb, hk⟩; refine ⟨_, rfl, ?_⟩; replace BK101 := Aside0.mk (KeepBut.blk hk (g' := gb101) (o := .cells #[.int .i64 0, .int .i64 0, .int .i64 0, .int .i64 0, .int .i64 0, .string (⟨#[]⟩ : ByteArray)] 28 (0, 0)) (by refine bq ?_; refine blk_far ?_ NB101_0.out _; refine bq ?_; refine blk_far ?_ NB101_0.out _; exact bq BK101.out) NB101_0.out (by simp)); replace BK107 := Aside0.mk (KeepBut.blk hk (g' := gb107) (o := .cells #[.int .i64 t102, .int .i64 0, .int .i64 0, .int .i64 0, .int .i64 0, .string (⟨#[]⟩ : ByteArray)] 28 (0, 0)) (by refine bq ?_; refine blk_far ?_ NB107_0.out _; refine bq ?_; refine blk_far ?_ NB107_0.out _; exact bq BK107.out) NB107_0.out (by simp)); replace HK := Aside0.mk (KeepBut.trans (by repeat (first | (with_reducible first | exact HK.out | apply KeepBut.set_ | apply keep_drewN | apply keep_drew | apply keep_alloc | refine keep_far ?_ GW101.out _ | refine keep_far ?_ GW107.out _) | exact HK.out)) hk (.inl rfl)); replace HB := Aside0.mk (hb); replace HI0 := Aside0.mk (hi); (try clear hb); (try clear hb2); (try clear hk); (try clear hi); obtain ⟨hcz61_0, hcz61_1, hcz61_2, hcz61_3, hcz61_4, hcz61_5, hfz61_0, hfz61_1, hfz61_2, hfz61_3, hfz61_4, hfz61_5⟩ := blk6 BK107.out) | ((with_reducible refine gate_callee (f := 37) rfl ?_); refine goesL_ (some 28) rfl rfl Try.func37 (by kernel_rfl) rfl #[.int .i64 (wrap64 (Int.tdiv t108 16))] rfl qq0 ?_; (with_reducible refine (wire_one.calls (wrap64 (Int.tdiv t108 16)) false _ A37.out).mono ?_); rintro e w' ⟨rfl, ⟨nd, rfl⟩⟩; refine ⟨_, rfl, ?_⟩) | ((with_reducible refine gate_callee (f := 72) rfl ?_); refine goesL_ (some 31) rfl rfl Try.func72 (by kernel_rfl) rfl #[.pointer (some ⟨g, 0, none⟩)] rfl qq0 ?_; (with_reducible refine (wire_reader_data.calls g t129 t130 t131 t132 t134 t135 t136 t137 t138 w0 _ ?side1 ?side2 A51.out).mono ?_); (case side1 => repeat (first | (with_reducible first | exact HI0.out | apply IsS86.alloc | apply IsS86.drewN | apply IsS86.drew | apply IsS86.set_0 | apply IsS86.set_1 | apply IsS86.set_2 | apply IsS86.set_3 | refine IsS86.far ?_ NB0_101.out _ | refine IsS86.far ?_ NB0_107.out _) | exact HI0.out)); (case side2 => repeat (first | (with_reducible first | exact HB.out | apply below_alloc | apply pw_below_drewN | apply below_drew1 | refine below_set ?_ (IsS86.ge HI0.out) | refine below_set ?_ GE101.out | refine below_set ?_ GE107.out) | exact HB.out)); rintro e w62 ⟨rfl, hi, hb, hk⟩; refine ⟨_, rfl, ?_⟩; replace BK101 := Aside0.mk (KeepBut.blk hk (g' := gb101) (o := .cells #[.int .i64 0, .int .i64 0, .int .i64 0, .int .i64 0, .int .i64 0, .string (⟨#[]⟩ : ByteArray)] 28 (0, 0)) (by refine bq ?_; refine blk_far ?_ NB101_107.out _; refine bq ?_; refine blk_far ?_ NB101_107.out _; refine bq ?_; refine blk_far ?_ NB101_107.out _; exact bq BK101.out) NB101_0.out (by simp)); replace BK107 := Aside0.mk (KeepBut.blk hk (g' := gb107) (o := .cells #[.int .i64 t102, .int .i64 (wrap64 (Int.tdiv t108 16)), .int .i64 (Int.tmod t108 16), .int .i64 t128, .int .i64 0, .string (⟨#[]⟩ : ByteArray)] 28 (0, 0)) (by refine bq ?_; refine blk_put (cs := #[.int .i64 t102, .int .i64 (wrap64 (Int.tdiv t108 16)), .int .i64 (Int.tmod t108 16), .int .i64 0, .int .i64 0, .string (⟨#[]⟩ : ByteArray)]) ?_ 3 _ rfl; refine bq ?_; refine blk_put (cs := #[.int .i64 t102, .int .i64 (wrap64 (Int.tdiv t108 16)), .int .i64 0, .int .i64 0, .int .i64 0, .string (⟨#[]⟩ : ByteArray)]) ?_ 2 _ rfl; refine bq ?_; refine blk_put (cs := #[.int .i64 t102, .int .i64 0, .int .i64 0, .int .i64 0, .int .i64 0, .string (⟨#[]⟩ : ByteArray)]) ?_ 1 _ rfl; exact bq BK107.out) NB107_0.out (by simp)); replace HK := Aside0.mk (KeepBut.trans (by repeat (first | (with_reducible first | exact HK.out | apply KeepBut.set_ | apply keep_drewN | apply keep_drew | apply keep_alloc | refine keep_far ?_ GW101.out _ | refine keep_far ?_ GW107.out _) | exact HK.out)) hk (.inl rfl)); replace HB := Aside0.mk (hb); replace HI0 := Aside0.mk (hi); (try clear hb); (try clear hb2); (try clear hk); (try clear hi); obtain ⟨hcz63_0, hcz63_1, hcz63_2, hcz63_3, hcz63_4, hcz63_5, hfz63_0, hfz63_1, hfz63_2, hfz63_3, hfz63_4, hfz63_5⟩ := blk6 BK107.out; have hnb64 := NB101_0.out; have hnc64 := NB0_101.out; obtain ⟨hcz65_0, hcz65_1, hcz65_2, hcz65_3, hcz65_4, hcz65_5, hfz65_0, hfz65_1, hfz65_2, hfz65_3, hfz65_4, hfz65_5⟩ := blk6 BK101.out))
  refine bodyPost_ret (results_cell_row rfl _ _ gb101 28 #[.int .i64 t102, .int .i64 (wrap64 (Int.tdiv t108 16)), .int .i64 (Int.tmod t108 16), .int .i64 t128, .int .i64 t134, .string (⟨#[]⟩ : ByteArray)] (0, 0) _ rfl (by refine bq ?_; refine blk_put (cs := #[.int .i64 t102, .int .i64 (wrap64 (Int.tdiv t108 16)), .int .i64 (Int.tmod t108 16), .int .i64 t128, .int .i64 t134, .string (⟨#[]⟩ : ByteArray)]) ?_ 5 _ rfl; refine bq ?_; refine blk_put (cs := #[.int .i64 t102, .int .i64 (wrap64 (Int.tdiv t108 16)), .int .i64 (Int.tmod t108 16), .int .i64 t128, .int .i64 0, .string (⟨#[]⟩ : ByteArray)]) ?_ 4 _ rfl; refine bq ?_; refine blk_put (cs := #[.int .i64 t102, .int .i64 (wrap64 (Int.tdiv t108 16)), .int .i64 (Int.tmod t108 16), .int .i64 0, .int .i64 0, .string (⟨#[]⟩ : ByteArray)]) ?_ 3 _ rfl; refine bq ?_; refine blk_put (cs := #[.int .i64 t102, .int .i64 (wrap64 (Int.tdiv t108 16)), .int .i64 0, .int .i64 0, .int .i64 0, .string (⟨#[]⟩ : ByteArray)]) ?_ 2 _ rfl; refine bq ?_; refine blk_put (cs := #[.int .i64 t102, .int .i64 0, .int .i64 0, .int .i64 0, .int .i64 0, .string (⟨#[]⟩ : ByteArray)]) ?_ 1 _ rfl; refine bq ?_; refine blk_put (cs := #[.int .i64 0, .int .i64 0, .int .i64 0, .int .i64 0, .int .i64 0, .string (⟨#[]⟩ : ByteArray)]) ?_ 0 _ rfl; refine bq ?_; refine blk_far ?_ NB101_107.out _; exact bq BK101.out) Try.underlying28 rfl (by kernel_rfl)) rfl ?_
  exact ⟨qq5, by repeat (first | (with_reducible first | exact HI0.out | apply IsS86.alloc | apply IsS86.drewN | apply IsS86.drew | apply IsS86.set_0 | apply IsS86.set_1 | apply IsS86.set_2 | apply IsS86.set_3 | refine IsS86.far ?_ NB0_101.out _ | refine IsS86.far ?_ NB0_107.out _) | exact HI0.out), by repeat (first | (with_reducible first | exact HB.out | apply below_alloc | apply pw_below_drewN | apply below_drew1 | refine below_set ?_ (IsS86.ge HI0.out) | refine below_set ?_ GE101.out | refine below_set ?_ GE107.out) | exact HB.out), by repeat (first | (with_reducible first | exact HK.out | apply KeepBut.set_ | apply keep_drewN | apply keep_drew | apply keep_alloc | refine keep_far ?_ GW101.out _ | refine keep_far ?_ GW107.out _) | exact HK.out)⟩
def wire_Decode.l0 : Nat → ByteArray → List (S28) → ByteArray → Int → Int → Option ((List (S28)) × Int × Int)
  | 0, _, _, _, _, _ => none
  | k + 1, x0, x5, y0, y1, y2 => if y1 < (x0.size : Int) then ((wire_reader_message.f k y0 y1 y2 0).bind fun b => (if b.2.2.2.2.2.2.2.2.2 = 0 then (if x5.length < 2513169434916 then (wire_Decode.l0 k x0 (x5 ++ [(⟨b.1, b.2.1, b.2.2.1, b.2.2.2.1, b.2.2.2.2.1, b.2.2.2.2.2.1⟩ : S28)]) b.2.2.2.2.2.2.1 b.2.2.2.2.2.2.2.1 b.2.2.2.2.2.2.2.2.1) else (none)) else (some (([] : List (S28)), y1, b.2.2.2.2.2.2.2.2.2)))) else (some (x5, 0, 0))
def wire_Decode.f (k : Nat) (a0 : ByteArray) : Option ((List (S28)) × Int × Int) := wire_Decode.l0 k a0 ([] : List (S28)) a0 0 0
theorem wire_Decode.mono_l : ∀ k, (∀ y0 y1 y2 y3 y4, LeO (wire_Decode.l0 k y0 y1 y2 y3 y4) (wire_Decode.l0 (k + 1) y0 y1 y2 y3 y4))
  | 0 => fun _ _ _ _ _ r h => by simp [wire_Decode.l0] at h
  | k + 1 => by
    have ih0 := wire_Decode.mono_l k
    · intro y0 y1 y2 y3 y4
      unfold wire_Decode.l0
      repeat' first
      | (with_reducible exact ih0 _ _ _ _ _)
      | (with_reducible exact wire_reader_message.mono _ _ _ _ _)
      | (with_reducible exact LeO.refl _)
      | (with_reducible exact LeO.none _)
      | (with_reducible refine LeO.ite ?_ ?_)
      | (with_reducible refine LeO.bind ?_ (fun _ => ?_))
      | exact ih0 _ _ _ _ _
      | exact wire_reader_message.mono _ _ _ _ _
      | exact LeO.none _
      | refine LeO.ite ?_ ?_
      | refine LeO.bind ?_ (fun _ => ?_)
theorem wire_Decode.mono : ∀ a0 k, LeO (wire_Decode.f k a0) (wire_Decode.f (k + 1) a0) := fun a0 k => wire_Decode.mono_l k a0 [] a0 0 0
set_option maxHeartbeats 8000000 in
set_option maxRecDepth 100000 in
theorem wire_Decode.calls (k : Nat) (a0 : ByteArray) (r1 : List (S28)) (r2 : Int) (r3 : Int) (w : World) (h : wire_Decode.f k a0 = some (r1, r2, r3)) :
    Calls Try.prog 56 #[.string a0] w fun e w' => ∃ v0_ : Value, e = .returned (.tuple #[v0_, .int .i64 r2, .int .i64 r3]) ∧ Kd.R k28 28 w' w.heap.size (fun _ => True) v0_ r1 ∧ Below w.heap.size w w' := by
  have hu28 := Try.underlying28
  have hu86 := Try.underlying86
  have HB0 := Aside0.mk (Below.refl w.heap.size w)
  have H := h
  unfold wire_Decode.f at H
  clear h
  have H' := Aside0.mk H
  clear H
  have HS := Aside0.mk (IsS86.new w w a0 0 0 0 (Below.refl _ _))
  go_enter Try.func56, Try.ntmps56
  go_wp2
  go_loopg [5] k (fun kq v5 w' => ∃ (x5_1 : List (S28)) (y0 : ByteArray) (y1 y2 : Int), Aside0 (wire_Decode.l0 kq a0 x5_1 y0 y1 y2 = some (r1, r2, r3)) ∧ Aside0 (kq ≤ k) ∧ Aside0 (Kd.R k28 28 w' w.heap.size (fun _ => True) v5 x5_1) ∧ Aside0 (IsS86 w w' w.heap.size y0 y1 y2 0) ∧ Aside0 (Below w.heap.size w w'))
  case atStart => exact ⟨([] : List (S28)), a0, 0, 0, H', ⟨Nat.le_refl _⟩, ⟨Kd.R_nil _ _ _ _ _⟩, HS, ⟨(Below.refl _ _).alloc (Nat.le_refl _) _⟩⟩
  case round =>
    clear H' HS HB0
    obtain ⟨x5_1, y0, y1, y2, HA, HK1, HO_5, HS, HB⟩ := hrel
    cases gk with
    | zero => exact absurd HA.out (by simp [wire_Decode.l0])
    | succ k1 =>
      have H := HA.out
      clear HA
      simp only [wire_Decode.l0] at H
      have cy1 := cellS86_1 HS.out.1
      by_cases c2 : y1 < (a0.size : Int)
      rotate_left
      · rw [if_neg c2] at H
        have c2b0 : decide (y1 < (a0.size : Int)) = false := decide_eq_false c2
        clear c2
        simp only [Option.some.injEq, Prod.mk.injEq] at H
        obtain ⟨rfl, rfl, rfl⟩ := H
        go_wp2
        go_ret3
        exact ⟨_, rfl, HO_5.out, HB.out⟩
      rw [if_pos c2] at H
      have c2b0 : decide (y1 < (a0.size : Int)) = true := decide_eq_true c2
      clear c2
      replace H := Option.bind_eq_some_iff.mp H
      obtain ⟨⟨t1, t2, t3, t4, t5, t6, s1, s2, s3, s4⟩, A30, H⟩ := H
      try dsimp -simprocs only at H
      have A3 := Aside0.mk A30
      clear A30
      have H' := Aside0.mk H
      clear H
      go_wp2_with fail
      refine (wire_reader_message.calls k1 w.heap.size y0 y1 y2 0 t1 t2 t3 t4 t5 t6 s1 s2 s3 s4 w _ HS.out HB.out A3.out).mono ?_
      rintro e w6 ⟨rfl, hi, hb, hk⟩
      have HO6 := Aside0.mk (Kd.R_keep (Kd.R_types HO_5.out HS.out.1 (by decide)) hk (fun _ hk => hk.2))
      have HS6 := Aside0.mk hi
      have HB6 := Aside0.mk hb
      clear hi hb hk HO_5 HS HB cy1
      have ce : w6.cell? ⟨w.heap.size, 3, none⟩ = some (.int .i64 s4) := cellS86_3 HS6.out.1
      have hlt : w.heap.size < w6.heap.size := IsS86.lt HS6.out
      have hne : w.heap.size ≠ w6.heap.size := Nat.ne_of_lt hlt
      have H := H'.out
      clear H'
      by_cases c4 : s4 = 0
      rotate_left
      · rw [if_neg c4] at H
        have c4b1 : (s4 != 0) = true := bne_iff_ne.mpr c4
        simp only [Option.some.injEq, Prod.mk.injEq] at H
        obtain ⟨rfl, rfl, rfl⟩ := H
        go_wp2_with fail
        go_quiet (fail)
        go_wp2_with fail
        go_ret3
        exact ⟨_, rfl, Kd.R_nil _ _ _ _ _, pw_below_drewN (below_alloc HB6.out _) _⟩
      rw [if_pos c4] at H
      by_cases c5 : x5_1.length < 2513169434916
      rotate_left
      · rw [if_neg c5] at H
        exact absurd H (by simp)
      rw [if_pos c5] at H
      have c4b1 : (s4 != 0) = false := bne_eq_false_iff_eq.mpr c4
      have LM := Aside0.mk c5
      have H' := Aside0.mk H
      have C4 := Aside0.mk c4
      clear H c4 c5
      have HO7 := Aside0.mk (Kd.R_mono (Kd.R_alloc (o := .cells #[.int .i64 t1, .int .i64 t2, .int .i64 t3, .int .i64 t4, .int .i64 t5, .string t6] 28) HO6.out) (fun _ _ => trivial) : Kd.R k28 28 _ w.heap.size (fun _ => True) u5 x5_1)
      have HS7 := Aside0.mk (HS6.out.alloc (.cells #[.int .i64 t1, .int .i64 t2, .int .i64 t3, .int .i64 t4, .int .i64 t5, .string t6] 28))
      have HB7 := Aside0.mk (below_alloc HB6.out (.cells #[.int .i64 t1, .int .i64 t2, .int .i64 t3, .int .i64 t4, .int .i64 t5, .string t6] 28))
      go_wp2_with (((with_reducible refine gate_builtin (b := .append) (xs := #[.tmp 35, .tmp 37]) rfl ?_); at_builtin; go_loud (refine Kd.R_append k28 (w0 := w) w.heap.size rfl (.tmp 35) (.tmp 37) 30 28 (.agg #[(.int .i64 0), (.int .i64 0), (.int .i64 0), (.int .i64 0), (.int .i64 0), (.string ⟨#[]⟩)]) 56 rfl Try.underlying30 info28 rfl (by decide) (by omega) u5 x5_1 (⟨t1, t2, t3, t4, t5, t6⟩ : S28) [.int .i64 t1, .int .i64 t2, .int .i64 t3, .int .i64 t4, .int .i64 t5, .string t6] (fun _ => True) (fun _ => False) rfl qq6 ?aP (fun _ hk => hk.elim) ?aF ?aO ?aB ?aS ?aL ?_); (case aP => exact k28_mkM _ _ _ (⟨t1, t2, t3, t4, t5, t6⟩ : S28)); (case aF => exact (fun _ _ => trivial)); (case aO => exact HO7.out); (case aB => exact HB7.out); (case aS => exact below_size HB7.out); (case aL => have := LM.out; omega); intro v9 w9 ho hb hg hat; have HO9 := Aside0.mk ho; have HB9 := Aside0.mk hb; have HS9 := Aside0.mk (HS7.out.grown hg (Kd.R_ne HO7.out HS7.out.1 (by decide))); clear ho hb hg hat))
      go_roundg k1
      case measure => have := HK1.out; omega
      case rel => exact ⟨_, s1, s2, s3, H', ⟨qq18⟩, HO9, ⟨by have h9 := HS9.out; rw [C4.out] at h9; exact h9⟩, HB9⟩
def wire_counts.f (a0 : Int) : Option (Bool) := if a0 ≥ 0 then (some (decide (a0 ≤ 268435455))) else (some false)
set_option maxHeartbeats 8000000 in
set_option maxRecDepth 100000 in
theorem wire_counts.calls (a0 : Int) (r : Bool) (w : World) (h : wire_counts.f a0 = some r) :
    Calls Try.prog 57 #[.int .i64 a0] w fun e w' => e = .returned (.bool r) ∧ Drawn0 w w' := by
  have H := h
  unfold wire_counts.f at H
  clear h
  by_cases c2 : a0 ≥ 0
  · rw [if_pos c2] at H
    have c2b0 : decide (0 ≤ a0) = true := decide_eq_true c2
    clear c2
    obtain rfl := Option.some.inj H
    go_enter Try.func57, Try.ntmps57
    go_wp2
    go_ret
    exact ⟨qq8, qqf⟩
  · rw [if_neg c2] at H
    have c2b0 : decide (0 ≤ a0) = false := decide_eq_false c2
    clear c2
    obtain rfl := Option.some.inj H
    go_enter Try.func57, Try.ntmps57
    go_wp2
    go_ret
    exact ⟨qq8, qqf⟩
def wire_within.f (a0 : Int) (a1 : Int) (a2 : Int) : Option (Bool) := if a0 ≥ a1 then (some (decide (a0 ≤ a2))) else (some false)
set_option maxHeartbeats 8000000 in
set_option maxRecDepth 100000 in
theorem wire_within.calls (a0 : Int) (a1 : Int) (a2 : Int) (r : Bool) (w : World) (h : wire_within.f a0 a1 a2 = some r) :
    Calls Try.prog 58 #[.int .i64 a0, .int .i64 a1, .int .i64 a2] w fun e w' => e = .returned (.bool r) ∧ Drawn0 w w' := by
  have H := h
  unfold wire_within.f at H
  clear h
  by_cases c4 : a0 ≥ a1
  · rw [if_pos c4] at H
    have c4b0 : decide (a1 ≤ a0) = true := decide_eq_true c4
    clear c4
    obtain rfl := Option.some.inj H
    go_enter Try.func58, Try.ntmps58
    go_wp2
    go_ret
    exact ⟨qq8, qqf⟩
  · rw [if_neg c4] at H
    have c4b0 : decide (a1 ≤ a0) = false := decide_eq_false c4
    clear c4
    obtain rfl := Option.some.inj H
    go_enter Try.func58, Try.ntmps58
    go_wp2
    go_ret
    exact ⟨qq8, qqf⟩
mutual
def wire_Right.j0 : Nat → Bool → Int → Int → Int → Int → Int → ByteArray → Option (Bool)
  | 0, _, _, _, _, _, _, _ => none
  | k + 1, x14, x102000, x102001, x102002, x102003, x102004, x102005 => if x14 = true then (some false) else (if x102005.toList = ([] : List UInt8) then ((wire_within.f x102002 0 15).bind fun t103 => (if t103 = true then ((wire_within.f x102003 0 127).bind fun t104 => (wire_Right.j1 k t104 x102000 x102001 x102002 x102003 x102004 x102005)) else (wire_Right.j1 k false x102000 x102001 x102002 x102003 x102004 x102005))) else (wire_Right.j1 k false x102000 x102001 x102002 x102003 x102004 x102005))
def wire_Right.j1 : Nat → Bool → Int → Int → Int → Int → Int → ByteArray → Option (Bool)
  | 0, _, _, _, _, _, _, _ => none
  | k + 1, x3, x102000, x102001, x102002, x102003, x102004, x102005 => if x102002 = 0 then (wire_Right.j2 k x3 (x102004 == 0) x102000 x102001 x102002 x102003 x102004 x102005) else (wire_Right.j2 k x3 false x102000 x102001 x102002 x102003 x102004 x102005)
def wire_Right.j2 : Nat → Bool → Bool → Int → Int → Int → Int → Int → ByteArray → Option (Bool)
  | 0, _, _, _, _, _, _, _, _ => none
  | k + 1, x3, x4, x102000, x102001, x102002, x102003, x102004, x102005 => if x102001 = 8 then (wire_Right.j3 k x3 x4 x102001 (x102001 == 8) x102000 x102001 x102002 x102003 x102004 x102005) else (if x102001 = 9 then (wire_Right.j3 k x3 x4 x102001 (x102001 == 9) x102000 x102001 x102002 x102003 x102004 x102005) else (if x102001 = 10 then (wire_Right.j3 k x3 x4 x102001 (x102001 == 10) x102000 x102001 x102002 x102003 x102004 x102005) else (if x102001 = 11 then (wire_Right.j3 k x3 x4 x102001 (x102001 == 11) x102000 x102001 x102002 x102003 x102004 x102005) else (wire_Right.j3 k x3 x4 x102001 (x102001 == 14) x102000 x102001 x102002 x102003 x102004 x102005))))
def wire_Right.j3 : Nat → Bool → Bool → Int → Bool → Int → Int → Int → Int → Int → ByteArray → Option (Bool)
  | 0, _, _, _, _, _, _, _, _, _, _ => none
  | k + 1, x3, x4, x37, x38, x102000, x102001, x102002, x102003, x102004, x102005 => if x38 = true then (if x3 = true then ((wire_within.f x102004 0 127).bind fun t105 => (some t105)) else (some false)) else (if x37 = 12 then (wire_Right.j4 k x3 x4 x37 (x37 == 12) x102000 x102001 x102002 x102003 x102004 x102005) else (wire_Right.j4 k x3 x4 x37 (x37 == 13) x102000 x102001 x102002 x102003 x102004 x102005))
def wire_Right.j4 : Nat → Bool → Bool → Int → Bool → Int → Int → Int → Int → Int → ByteArray → Option (Bool)
  | 0, _, _, _, _, _, _, _, _, _, _ => none
  | k + 1, x3, x4, x37, x50, x102000, x102001, x102002, x102003, x102004, x102005 => if x50 = true then (if x3 = true then (some (x102004 == 0)) else (some false)) else (if x37 = 15 then (if x4 = true then (if x102003 = 240 then (some true) else (some (x102003 == 247))) else (some false)) else (if x37 = 16 then (if x4 = true then ((wire_within.f x102003 0 127).bind fun t106 => (some t106)) else (some false)) else (some false)))
end
def wire_Right.f (k : Nat) (a0_0 : Int) (a0_1 : Int) (a0_2 : Int) (a0_3 : Int) (a0_4 : Int) (a0_5 : ByteArray) : Option (Bool) := (wire_counts.f a0_0).bind fun t102 => (if t102 = true then (wire_Right.j0 k (decide ((a0_5.size : Int) > 100000)) a0_0 a0_1 a0_2 a0_3 a0_4 a0_5) else (wire_Right.j0 k true a0_0 a0_1 a0_2 a0_3 a0_4 a0_5))
theorem wire_Right.mono_l : ∀ k, (∀ y0 y1 y2 y3 y4 y5 y6, LeO (wire_Right.j0 k y0 y1 y2 y3 y4 y5 y6) (wire_Right.j0 (k + 1) y0 y1 y2 y3 y4 y5 y6)) ∧ (∀ y0 y1 y2 y3 y4 y5 y6, LeO (wire_Right.j1 k y0 y1 y2 y3 y4 y5 y6) (wire_Right.j1 (k + 1) y0 y1 y2 y3 y4 y5 y6)) ∧ (∀ y0 y1 y2 y3 y4 y5 y6 y7, LeO (wire_Right.j2 k y0 y1 y2 y3 y4 y5 y6 y7) (wire_Right.j2 (k + 1) y0 y1 y2 y3 y4 y5 y6 y7)) ∧ (∀ y0 y1 y2 y3 y4 y5 y6 y7 y8 y9, LeO (wire_Right.j3 k y0 y1 y2 y3 y4 y5 y6 y7 y8 y9) (wire_Right.j3 (k + 1) y0 y1 y2 y3 y4 y5 y6 y7 y8 y9)) ∧ (∀ y0 y1 y2 y3 y4 y5 y6 y7 y8 y9, LeO (wire_Right.j4 k y0 y1 y2 y3 y4 y5 y6 y7 y8 y9) (wire_Right.j4 (k + 1) y0 y1 y2 y3 y4 y5 y6 y7 y8 y9))
  | 0 => ⟨fun _ _ _ _ _ _ _ r h => by simp [wire_Right.j0] at h, fun _ _ _ _ _ _ _ r h => by simp [wire_Right.j1] at h, fun _ _ _ _ _ _ _ _ r h => by simp [wire_Right.j2] at h, fun _ _ _ _ _ _ _ _ _ _ r h => by simp [wire_Right.j3] at h, fun _ _ _ _ _ _ _ _ _ _ r h => by simp [wire_Right.j4] at h⟩
  | k + 1 => by
    obtain ⟨ih0, ih1, ih2, ih3, ih4⟩ := wire_Right.mono_l k
    refine ⟨?_, ?_, ?_, ?_, ?_⟩
    · intro y0 y1 y2 y3 y4 y5 y6
      unfold wire_Right.j0
      repeat' first
      | (with_reducible exact ih0 _ _ _ _ _ _ _)
      | (with_reducible exact ih1 _ _ _ _ _ _ _)
      | (with_reducible exact ih2 _ _ _ _ _ _ _ _)
      | (with_reducible exact ih3 _ _ _ _ _ _ _ _ _ _)
      | (with_reducible exact ih4 _ _ _ _ _ _ _ _ _ _)
      | (with_reducible exact LeO.refl _)
      | (with_reducible exact LeO.none _)
      | (with_reducible refine LeO.ite ?_ ?_)
      | (with_reducible refine LeO.bind ?_ (fun _ => ?_))
      | exact ih0 _ _ _ _ _ _ _
      | exact ih1 _ _ _ _ _ _ _
      | exact ih2 _ _ _ _ _ _ _ _
      | exact ih3 _ _ _ _ _ _ _ _ _ _
      | exact ih4 _ _ _ _ _ _ _ _ _ _
      | exact LeO.none _
      | refine LeO.ite ?_ ?_
      | refine LeO.bind ?_ (fun _ => ?_)
    · intro y0 y1 y2 y3 y4 y5 y6
      unfold wire_Right.j1
      repeat' first
      | (with_reducible exact ih0 _ _ _ _ _ _ _)
      | (with_reducible exact ih1 _ _ _ _ _ _ _)
      | (with_reducible exact ih2 _ _ _ _ _ _ _ _)
      | (with_reducible exact ih3 _ _ _ _ _ _ _ _ _ _)
      | (with_reducible exact ih4 _ _ _ _ _ _ _ _ _ _)
      | (with_reducible exact LeO.refl _)
      | (with_reducible exact LeO.none _)
      | (with_reducible refine LeO.ite ?_ ?_)
      | (with_reducible refine LeO.bind ?_ (fun _ => ?_))
      | exact ih0 _ _ _ _ _ _ _
      | exact ih1 _ _ _ _ _ _ _
      | exact ih2 _ _ _ _ _ _ _ _
      | exact ih3 _ _ _ _ _ _ _ _ _ _
      | exact ih4 _ _ _ _ _ _ _ _ _ _
      | exact LeO.none _
      | refine LeO.ite ?_ ?_
      | refine LeO.bind ?_ (fun _ => ?_)
    · intro y0 y1 y2 y3 y4 y5 y6 y7
      unfold wire_Right.j2
      repeat' first
      | (with_reducible exact ih0 _ _ _ _ _ _ _)
      | (with_reducible exact ih1 _ _ _ _ _ _ _)
      | (with_reducible exact ih2 _ _ _ _ _ _ _ _)
      | (with_reducible exact ih3 _ _ _ _ _ _ _ _ _ _)
      | (with_reducible exact ih4 _ _ _ _ _ _ _ _ _ _)
      | (with_reducible exact LeO.refl _)
      | (with_reducible exact LeO.none _)
      | (with_reducible refine LeO.ite ?_ ?_)
      | (with_reducible refine LeO.bind ?_ (fun _ => ?_))
      | exact ih0 _ _ _ _ _ _ _
      | exact ih1 _ _ _ _ _ _ _
      | exact ih2 _ _ _ _ _ _ _ _
      | exact ih3 _ _ _ _ _ _ _ _ _ _
      | exact ih4 _ _ _ _ _ _ _ _ _ _
      | exact LeO.none _
      | refine LeO.ite ?_ ?_
      | refine LeO.bind ?_ (fun _ => ?_)
    · intro y0 y1 y2 y3 y4 y5 y6 y7 y8 y9
      unfold wire_Right.j3
      repeat' first
      | (with_reducible exact ih0 _ _ _ _ _ _ _)
      | (with_reducible exact ih1 _ _ _ _ _ _ _)
      | (with_reducible exact ih2 _ _ _ _ _ _ _ _)
      | (with_reducible exact ih3 _ _ _ _ _ _ _ _ _ _)
      | (with_reducible exact ih4 _ _ _ _ _ _ _ _ _ _)
      | (with_reducible exact LeO.refl _)
      | (with_reducible exact LeO.none _)
      | (with_reducible refine LeO.ite ?_ ?_)
      | (with_reducible refine LeO.bind ?_ (fun _ => ?_))
      | exact ih0 _ _ _ _ _ _ _
      | exact ih1 _ _ _ _ _ _ _
      | exact ih2 _ _ _ _ _ _ _ _
      | exact ih3 _ _ _ _ _ _ _ _ _ _
      | exact ih4 _ _ _ _ _ _ _ _ _ _
      | exact LeO.none _
      | refine LeO.ite ?_ ?_
      | refine LeO.bind ?_ (fun _ => ?_)
    · intro y0 y1 y2 y3 y4 y5 y6 y7 y8 y9
      unfold wire_Right.j4
      repeat' first
      | (with_reducible exact ih0 _ _ _ _ _ _ _)
      | (with_reducible exact ih1 _ _ _ _ _ _ _)
      | (with_reducible exact ih2 _ _ _ _ _ _ _ _)
      | (with_reducible exact ih3 _ _ _ _ _ _ _ _ _ _)
      | (with_reducible exact ih4 _ _ _ _ _ _ _ _ _ _)
      | (with_reducible exact LeO.refl _)
      | (with_reducible exact LeO.none _)
      | (with_reducible refine LeO.ite ?_ ?_)
      | (with_reducible refine LeO.bind ?_ (fun _ => ?_))
      | exact ih0 _ _ _ _ _ _ _
      | exact ih1 _ _ _ _ _ _ _
      | exact ih2 _ _ _ _ _ _ _ _
      | exact ih3 _ _ _ _ _ _ _ _ _ _
      | exact ih4 _ _ _ _ _ _ _ _ _ _
      | exact LeO.none _
      | refine LeO.ite ?_ ?_
      | refine LeO.bind ?_ (fun _ => ?_)
theorem wire_Right.mono : ∀ a0 a1 a2 a3 a4 a5 k, LeO (wire_Right.f k a0 a1 a2 a3 a4 a5) (wire_Right.f (k + 1) a0 a1 a2 a3 a4 a5) := by
  intro a0 a1 a2 a3 a4 a5 k
  obtain ⟨ih0, ih1, ih2, ih3, ih4⟩ := wire_Right.mono_l k
  unfold wire_Right.f
  repeat' first
      | (with_reducible exact ih0 _ _ _ _ _ _ _)
      | (with_reducible exact ih1 _ _ _ _ _ _ _)
      | (with_reducible exact ih2 _ _ _ _ _ _ _ _)
      | (with_reducible exact ih3 _ _ _ _ _ _ _ _ _ _)
      | (with_reducible exact ih4 _ _ _ _ _ _ _ _ _ _)
      | (with_reducible exact LeO.refl _)
      | (with_reducible exact LeO.none _)
      | (with_reducible refine LeO.ite ?_ ?_)
      | (with_reducible refine LeO.bind ?_ (fun _ => ?_))
      | exact ih0 _ _ _ _ _ _ _
      | exact ih1 _ _ _ _ _ _ _
      | exact ih2 _ _ _ _ _ _ _ _
      | exact ih3 _ _ _ _ _ _ _ _ _ _
      | exact ih4 _ _ _ _ _ _ _ _ _ _
      | exact LeO.none _
      | refine LeO.ite ?_ ?_
      | refine LeO.bind ?_ (fun _ => ?_)
set_option maxHeartbeats 8000000 in
set_option maxRecDepth 100000 in
theorem wire_Right.calls (k : Nat) (a0_0 : Int) (a0_1 : Int) (a0_2 : Int) (a0_3 : Int) (a0_4 : Int) (a0_5 : ByteArray) (r : Bool) (w : World) (h : wire_Right.f k a0_0 a0_1 a0_2 a0_3 a0_4 a0_5 = some r) :
    Calls Try.prog 35 #[.agg #[.int .i64 a0_0, .int .i64 a0_1, .int .i64 a0_2, .int .i64 a0_3, .int .i64 a0_4, .string a0_5]] w fun e w' => e = .returned (.bool r) ∧ Below w.heap.size w w' := by
  have hu28 := Try.underlying28
  have HB := Aside0.mk (Below.refl w.heap.size w)
  have H := h
  unfold wire_Right.f at H
  clear h
  have HC2 := Aside0.mk H
  clear H
  go_enter Try.func35, Try.ntmps35
  go_upto_region 1 with (first | ((with_reducible refine gate_dst (N := 1) rfl ?_); (try (refine gate_guard (by rfl) ?_; dsimp only)); refine box_event ?hg (N := 1) ?hd (cs := #[.int .i64 a0_0, .int .i64 a0_1, .int .i64 a0_2, .int .i64 a0_3, .int .i64 a0_4, .string a0_5]) (t := 28) ?hr ?_; (case hd => rfl); (case hg => rfl); (case hr => exact qq6); intro gb101 hg w3 hbox hb; have BK101 := Aside0.mk (hbox); have GW101 := Aside0.mk ((qq9 : w.heap.size ≤ gb101)); have GE101 := Aside0.mk ((qq9 : w.heap.size ≤ gb101)); replace HB := Aside0.mk (below_step (qB HB.out) hb); clear hb hbox hg))
  (try simp only [Act.put, List.setIfInBounds_toArray, List.set_cons_zero, List.set_cons_succ])
  go_cut [14] (fun v14 wc => ∃ (kq : Nat) (x14_1 : Bool), v14 = .bool x14_1 ∧ Aside0 (wire_Right.j0 kq x14_1 a0_0 a0_1 a0_2 a0_3 a0_4 a0_5 = some r) ∧ Aside0 (kq ≤ k) ∧ Aside0 (wc.heap[gb101]? = some (.cells #[.int .i64 a0_0, .int .i64 a0_1, .int .i64 a0_2, .int .i64 a0_3, .int .i64 a0_4, .string a0_5] 28 (0, 0))) ∧ Aside0 (Below w.heap.size w wc))
  case first =>
    have H := HC2.out
    clear HC2
    replace H := Option.bind_eq_some_iff.mp H
    obtain ⟨t102, A40, H⟩ := H
    try dsimp -simprocs only at H
    have A4 := Aside0.mk A40
    clear A40
    by_cases c5 : t102 = true
    · subst c5
      have H1 : (wire_Right.j0 k (decide ((a0_5.size : Int) > 100000)) a0_0 a0_1 a0_2 a0_3 a0_4 a0_5) = some r := by rw [if_pos rfl] at H; exact H
      clear H
      have H := H1
      clear H1
      have H' := Aside0.mk H
      clear H
      obtain ⟨hcz6_0, hcz6_1, hcz6_2, hcz6_3, hcz6_4, hcz6_5, hfz6_0, hfz6_1, hfz6_2, hfz6_3, hfz6_4, hfz6_5⟩ := blk6 BK101.out
      go_wp2_with (first | ((with_reducible refine gate_callee (f := 57) rfl ?_); refine goesL_ (some 7) rfl rfl Try.func57 (by kernel_rfl) rfl #[.int .i64 a0_0] rfl qq0 ?_; (with_reducible refine (wire_counts.calls a0_0 true _ A4.out).mono ?_); rintro e w' ⟨rfl, ⟨nd, rfl⟩⟩; refine ⟨_, rfl, ?_⟩))
      go_meet
      case rel => exact ⟨_, (decide ((a0_5.size : Int) > 100000)), qq8, H', ⟨qqA⟩, ⟨bq BK101.out⟩, ⟨qS1 GE101 HB.out⟩⟩
    replace c5 := Bool.eq_false_iff.mpr c5
    subst c5
    have H1 : (wire_Right.j0 k true a0_0 a0_1 a0_2 a0_3 a0_4 a0_5) = some r := by rw [if_neg (show ¬ (false = true) by decide)] at H; exact H
    clear H
    have H := H1
    clear H1
    have H' := Aside0.mk H
    clear H
    obtain ⟨hcz7_0, hcz7_1, hcz7_2, hcz7_3, hcz7_4, hcz7_5, hfz7_0, hfz7_1, hfz7_2, hfz7_3, hfz7_4, hfz7_5⟩ := blk6 BK101.out
    go_wp2_with (first | ((with_reducible refine gate_callee (f := 57) rfl ?_); refine goesL_ (some 7) rfl rfl Try.func57 (by kernel_rfl) rfl #[.int .i64 a0_0] rfl qq0 ?_; (with_reducible refine (wire_counts.calls a0_0 false _ A4.out).mono ?_); rintro e w' ⟨rfl, ⟨nd, rfl⟩⟩; refine ⟨_, rfl, ?_⟩))
    go_meet
    case rel => exact ⟨_, (true), qq8, H', ⟨qqA⟩, ⟨bq BK101.out⟩, ⟨qS1 GE101 HB.out⟩⟩
  case rest =>
    clear HC2
    try clear p2
    try clear c3
    try clear c5
    try clear hcz6_0
    try clear hcz6_1
    try clear hcz6_2
    try clear hcz6_3
    try clear hcz6_4
    try clear hcz6_5
    try clear hcz7_0
    try clear hcz7_1
    try clear hcz7_2
    try clear hcz7_3
    try clear hcz7_4
    try clear hcz7_5
    try clear hfz6_0
    try clear hfz6_1
    try clear hfz6_2
    try clear hfz6_3
    try clear hfz6_4
    try clear hfz6_5
    try clear hfz7_0
    try clear hfz7_1
    try clear hfz7_2
    try clear hfz7_3
    try clear hfz7_4
    try clear hfz7_5
    obtain ⟨kq, x14_1, rfl, HA, HJ1, BK101, HB⟩ := hcut
    cases kq with
    | zero => exact absurd HA.out (by simp [wire_Right.j0])
    | succ kj1 =>
      have H := HA.out
      clear HA
      simp only [wire_Right.j0] at H
      by_cases c8 : x14_1 = true
      · subst c8
        have H1 : (some false) = some r := by rw [if_pos rfl] at H; exact H
        clear H
        have H := H1
        clear H1
        obtain rfl := Option.some.inj H
        go_wp2
        go_ret
        exact ⟨qq5, qS1 GE101 HB.out⟩
      replace c8 := Bool.eq_false_iff.mpr c8
      subst c8
      have H1 : (if a0_5.toList = ([] : List UInt8) then ((wire_within.f a0_2 0 15).bind fun t103 => (if t103 = true then ((wire_within.f a0_3 0 127).bind fun t104 => (wire_Right.j1 kj1 t104 a0_0 a0_1 a0_2 a0_3 a0_4 a0_5)) else (wire_Right.j1 kj1 false a0_0 a0_1 a0_2 a0_3 a0_4 a0_5))) else (wire_Right.j1 kj1 false a0_0 a0_1 a0_2 a0_3 a0_4 a0_5)) = some r := by rw [if_neg (show ¬ (false = true) by decide)] at H; exact H
      clear H
      have H := H1
      clear H1
      have HC9 := Aside0.mk H
      clear H
      go_upto_region 3 with (fail)
      go_cut [3] (fun v3 wc => ∃ (kq : Nat) (x3_8 : Bool), v3 = .bool x3_8 ∧ Aside0 (wire_Right.j1 kq x3_8 a0_0 a0_1 a0_2 a0_3 a0_4 a0_5 = some r) ∧ Aside0 (kq ≤ kj1) ∧ Aside0 (wc.heap[gb101]? = some (.cells #[.int .i64 a0_0, .int .i64 a0_1, .int .i64 a0_2, .int .i64 a0_3, .int .i64 a0_4, .string a0_5] 28 (0, 0))) ∧ Aside0 (Below w.heap.size w wc))
      case first =>
        have H := HC9.out
        clear HC9
        by_cases c10 : a0_5.toList = ([] : List UInt8)
        rotate_left
        · rw [if_neg c10] at H
          have c10b0 : (a0_5.toList == ([] : List UInt8)) = false := beq_eq_false_iff_ne.mpr c10
          have c10b1 : (a0_5.toList != ([] : List UInt8)) = true := bne_iff_ne.mpr c10
          (first | rw [c10b0] | (simp only [i64_w, i32_w]; rw [c10b0]) | skip)
          have H' := Aside0.mk H
          clear H
          obtain ⟨hcz16_0, hcz16_1, hcz16_2, hcz16_3, hcz16_4, hcz16_5, hfz16_0, hfz16_1, hfz16_2, hfz16_3, hfz16_4, hfz16_5⟩ := blk6 BK101.out
          go_wp2
          go_meet
          case rel => exact ⟨_, (false), qq8, H', ⟨qq1E⟩, ⟨bq BK101.out⟩, ⟨qS1 GE101 HB.out⟩⟩
        rw [if_pos c10] at H
        have c10b0 : (a0_5.toList == ([] : List UInt8)) = true := beq_iff_eq.mpr c10
        have c10b1 : (a0_5.toList != ([] : List UInt8)) = false := bne_eq_false_iff_eq.mpr c10
        clear c10
        (first | rw [c10b0] | (simp only [i64_w, i32_w]; rw [c10b0]) | skip)
        replace H := Option.bind_eq_some_iff.mp H
        obtain ⟨t103, A110, H⟩ := H
        try dsimp -simprocs only at H
        have A11 := Aside0.mk A110
        clear A110
        by_cases c12 : t103 = true
        rotate_left
        · replace c12 := Bool.eq_false_iff.mpr c12
          subst c12
          have H1 : (wire_Right.j1 kj1 false a0_0 a0_1 a0_2 a0_3 a0_4 a0_5) = some r := by rw [if_neg (show ¬ (false = true) by decide)] at H; exact H
          clear H
          have H := H1
          clear H1
          have H' := Aside0.mk H
          clear H
          obtain ⟨hcz15_0, hcz15_1, hcz15_2, hcz15_3, hcz15_4, hcz15_5, hfz15_0, hfz15_1, hfz15_2, hfz15_3, hfz15_4, hfz15_5⟩ := blk6 BK101.out
          go_wp2_with (first | (go_at_call 58; (with_reducible refine (wire_within.calls a0_2 0 15 false _ A11.out).mono ?_); rintro e w' ⟨rfl, ⟨nd, rfl⟩⟩))
          go_meet
          case rel => exact ⟨_, (false), qq8, H', ⟨qq1E⟩, ⟨bq BK101.out⟩, ⟨qS1 GE101 HB.out⟩⟩
        subst c12
        have H1 : ((wire_within.f a0_3 0 127).bind fun t104 => (wire_Right.j1 kj1 t104 a0_0 a0_1 a0_2 a0_3 a0_4 a0_5)) = some r := by rw [if_pos rfl] at H; exact H
        clear H
        have H := H1
        clear H1
        replace H := Option.bind_eq_some_iff.mp H
        obtain ⟨t104, A130, H⟩ := H
        try dsimp -simprocs only at H
        have A13 := Aside0.mk A130
        clear A130
        have H' := Aside0.mk H
        clear H
        obtain ⟨hcz14_0, hcz14_1, hcz14_2, hcz14_3, hcz14_4, hcz14_5, hfz14_0, hfz14_1, hfz14_2, hfz14_3, hfz14_4, hfz14_5⟩ := blk6 BK101.out
        go_wp2_with (first | (go_at_call 58; (with_reducible refine (wire_within.calls a0_2 0 15 true _ A11.out).mono ?_); rintro e w' ⟨rfl, ⟨nd, rfl⟩⟩) | (go_at_call 58; (with_reducible refine (wire_within.calls a0_3 0 127 t104 _ A13.out).mono ?_); rintro e w' ⟨rfl, ⟨nd, rfl⟩⟩))
        go_meet
        case rel => exact ⟨_, (t104), qq8, H', ⟨qq1E⟩, ⟨bq BK101.out⟩, ⟨qS1 GE101 HB.out⟩⟩
      case rest =>
        clear HC9
        try clear c1
        try clear p2
        try clear c3
        try clear c5
        try clear c8
        try clear c10
        try clear c10b0
        try clear c10b1
        try clear c12
        try clear hcz14_0
        try clear hcz14_1
        try clear hcz14_2
        try clear hcz14_3
        try clear hcz14_4
        try clear hcz14_5
        try clear hcz15_0
        try clear hcz15_1
        try clear hcz15_2
        try clear hcz15_3
        try clear hcz15_4
        try clear hcz15_5
        try clear hcz16_0
        try clear hcz16_1
        try clear hcz16_2
        try clear hcz16_3
        try clear hcz16_4
        try clear hcz16_5
        try clear hcz6_0
        try clear hcz6_1
        try clear hcz6_2
        try clear hcz6_3
        try clear hcz6_4
        try clear hcz6_5
        try clear hcz7_0
        try clear hcz7_1
        try clear hcz7_2
        try clear hcz7_3
        try clear hcz7_4
        try clear hcz7_5
        try clear hfz14_0
        try clear hfz14_1
        try clear hfz14_2
        try clear hfz14_3
        try clear hfz14_4
        try clear hfz14_5
        try clear hfz15_0
        try clear hfz15_1
        try clear hfz15_2
        try clear hfz15_3
        try clear hfz15_4
        try clear hfz15_5
        try clear hfz16_0
        try clear hfz16_1
        try clear hfz16_2
        try clear hfz16_3
        try clear hfz16_4
        try clear hfz16_5
        try clear hfz6_0
        try clear hfz6_1
        try clear hfz6_2
        try clear hfz6_3
        try clear hfz6_4
        try clear hfz6_5
        try clear hfz7_0
        try clear hfz7_1
        try clear hfz7_2
        try clear hfz7_3
        try clear hfz7_4
        try clear hfz7_5
        try clear p2
        obtain ⟨kq, x3_8, rfl, HA, HJ8, BK101, HB⟩ := hcut
        cases kq with
        | zero => exact absurd HA.out (by simp [wire_Right.j1])
        | succ kj8 =>
          have H := HA.out
          clear HA
          simp only [wire_Right.j1] at H
          have HC17 := Aside0.mk H
          clear H
          go_upto_region 4 with (fail)
          go_cut [4] (fun v4 wc => ∃ (kq : Nat) (x4_16 : Bool), v4 = .bool x4_16 ∧ Aside0 (wire_Right.j2 kq x3_8 x4_16 a0_0 a0_1 a0_2 a0_3 a0_4 a0_5 = some r) ∧ Aside0 (kq ≤ kj8) ∧ Aside0 (wc.heap[gb101]? = some (.cells #[.int .i64 a0_0, .int .i64 a0_1, .int .i64 a0_2, .int .i64 a0_3, .int .i64 a0_4, .string a0_5] 28 (0, 0))) ∧ Aside0 (Below w.heap.size w wc))
          case first =>
            have H := HC17.out
            clear HC17
            by_cases c18 : a0_2 = 0
            rotate_left
            · rw [if_neg c18] at H
              have c18b0 : (a0_2 == 0) = false := beq_eq_false_iff_ne.mpr c18
              have c18b1 : (a0_2 != 0) = true := bne_iff_ne.mpr c18
              (first | rw [c18b0] | (simp only [i64_w, i32_w]; rw [c18b0]) | skip)
              have H' := Aside0.mk H
              clear H
              obtain ⟨hcz20_0, hcz20_1, hcz20_2, hcz20_3, hcz20_4, hcz20_5, hfz20_0, hfz20_1, hfz20_2, hfz20_3, hfz20_4, hfz20_5⟩ := blk6 BK101.out
              go_wp2
              go_meet
              case rel => exact ⟨_, (false), qq8, H', ⟨by have := HJ1.out; have := HJ8.out; first | omega | exact Nat.le_refl _⟩, ⟨bq BK101.out⟩, ⟨qS1 GE101 HB.out⟩⟩
            rw [if_pos c18] at H
            have c18b0 : (a0_2 == 0) = true := beq_iff_eq.mpr c18
            have c18b1 : (a0_2 != 0) = false := bne_eq_false_iff_eq.mpr c18
            clear c18
            (first | rw [c18b0] | (simp only [i64_w, i32_w]; rw [c18b0]) | skip)
            have H' := Aside0.mk H
            clear H
            obtain ⟨hcz19_0, hcz19_1, hcz19_2, hcz19_3, hcz19_4, hcz19_5, hfz19_0, hfz19_1, hfz19_2, hfz19_3, hfz19_4, hfz19_5⟩ := blk6 BK101.out
            go_wp2
            go_meet
            case rel => exact ⟨_, ((a0_4 == 0)), qq8, H', ⟨by have := HJ1.out; have := HJ8.out; first | omega | exact Nat.le_refl _⟩, ⟨bq BK101.out⟩, ⟨qS1 GE101 HB.out⟩⟩
          case rest =>
            clear HC17
            try clear c1
            try clear p2
            try clear c3
            try clear c5
            try clear c8
            try clear c10
            try clear c10b0
            try clear c10b1
            try clear c12
            try clear c18
            try clear c18b0
            try clear c18b1
            try clear hcz14_0
            try clear hcz14_1
            try clear hcz14_2
            try clear hcz14_3
            try clear hcz14_4
            try clear hcz14_5
            try clear hcz15_0
            try clear hcz15_1
            try clear hcz15_2
            try clear hcz15_3
            try clear hcz15_4
            try clear hcz15_5
            try clear hcz16_0
            try clear hcz16_1
            try clear hcz16_2
            try clear hcz16_3
            try clear hcz16_4
            try clear hcz16_5
            try clear hcz19_0
            try clear hcz19_1
            try clear hcz19_2
            try clear hcz19_3
            try clear hcz19_4
            try clear hcz19_5
            try clear hcz20_0
            try clear hcz20_1
            try clear hcz20_2
            try clear hcz20_3
            try clear hcz20_4
            try clear hcz20_5
            try clear hcz6_0
            try clear hcz6_1
            try clear hcz6_2
            try clear hcz6_3
            try clear hcz6_4
            try clear hcz6_5
            try clear hcz7_0
            try clear hcz7_1
            try clear hcz7_2
            try clear hcz7_3
            try clear hcz7_4
            try clear hcz7_5
            try clear hfz14_0
            try clear hfz14_1
            try clear hfz14_2
            try clear hfz14_3
            try clear hfz14_4
            try clear hfz14_5
            try clear hfz15_0
            try clear hfz15_1
            try clear hfz15_2
            try clear hfz15_3
            try clear hfz15_4
            try clear hfz15_5
            try clear hfz16_0
            try clear hfz16_1
            try clear hfz16_2
            try clear hfz16_3
            try clear hfz16_4
            try clear hfz16_5
            try clear hfz19_0
            try clear hfz19_1
            try clear hfz19_2
            try clear hfz19_3
            try clear hfz19_4
            try clear hfz19_5
            try clear hfz20_0
            try clear hfz20_1
            try clear hfz20_2
            try clear hfz20_3
            try clear hfz20_4
            try clear hfz20_5
            try clear hfz6_0
            try clear hfz6_1
            try clear hfz6_2
            try clear hfz6_3
            try clear hfz6_4
            try clear hfz6_5
            try clear hfz7_0
            try clear hfz7_1
            try clear hfz7_2
            try clear hfz7_3
            try clear hfz7_4
            try clear hfz7_5
            try clear p2
            obtain ⟨kq, x4_16, rfl, HA, HJ16, BK101, HB⟩ := hcut
            cases kq with
            | zero => exact absurd HA.out (by simp [wire_Right.j2])
            | succ kj16 =>
              have H := HA.out
              clear HA
              simp only [wire_Right.j2] at H
              have HC21 := Aside0.mk H
              clear H
              obtain ⟨hcz22_0, hcz22_1, hcz22_2, hcz22_3, hcz22_4, hcz22_5, hfz22_0, hfz22_1, hfz22_2, hfz22_3, hfz22_4, hfz22_5⟩ := blk6 BK101.out
              go_upto_if 38 with (fail)
              go_cut [38] (fun v38 wc => ∃ (kq : Nat) (x38_20 : Bool), v38 = .bool x38_20 ∧ Aside0 (wire_Right.j3 kq x3_8 x4_16 a0_1 x38_20 a0_0 a0_1 a0_2 a0_3 a0_4 a0_5 = some r) ∧ Aside0 (kq ≤ kj16) ∧ Aside0 (wc.heap[gb101]? = some (.cells #[.int .i64 a0_0, .int .i64 a0_1, .int .i64 a0_2, .int .i64 a0_3, .int .i64 a0_4, .string a0_5] 28 (0, 0))) ∧ Aside0 (Below w.heap.size w wc))
              case first =>
                have H := HC21.out
                clear HC21
                by_cases c23 : a0_1 = 8
                · rw [if_pos c23] at H
                  have c23b0 : (a0_1 == 8) = true := beq_iff_eq.mpr c23
                  have c23b1 : (a0_1 != 8) = false := bne_eq_false_iff_eq.mpr c23
                  clear c23
                  (first | rw [c23b0] | (simp only [i64_w, i32_w]; rw [c23b0]) | skip)
                  have H' := Aside0.mk H
                  clear H
                  go_wp2
                  go_meet
                  case rel => exact ⟨_, ((a0_1 == 8)), qq8, H', ⟨qq12⟩, ⟨bq BK101.out⟩, ⟨qS1 GE101 HB.out⟩⟩
                rw [if_neg c23] at H
                have c23b0 : (a0_1 == 8) = false := beq_eq_false_iff_ne.mpr c23
                have c23b1 : (a0_1 != 8) = true := bne_iff_ne.mpr c23
                (first | rw [c23b0] | (simp only [i64_w, i32_w]; rw [c23b0]) | skip)
                by_cases c24 : a0_1 = 9
                · rw [if_pos c24] at H
                  have c24b0 : (a0_1 == 9) = true := beq_iff_eq.mpr c24
                  have c24b1 : (a0_1 != 9) = false := bne_eq_false_iff_eq.mpr c24
                  clear c24
                  have H' := Aside0.mk H
                  clear H
                  go_wp2
                  go_meet
                  case rel => exact ⟨_, ((a0_1 == 9)), qq8, H', ⟨qq12⟩, ⟨bq BK101.out⟩, ⟨qS1 GE101 HB.out⟩⟩
                rw [if_neg c24] at H
                have c24b0 : (a0_1 == 9) = false := beq_eq_false_iff_ne.mpr c24
                have c24b1 : (a0_1 != 9) = true := bne_iff_ne.mpr c24
                by_cases c25 : a0_1 = 10
                · rw [if_pos c25] at H
                  have c25b0 : (a0_1 == 10) = true := beq_iff_eq.mpr c25
                  have c25b1 : (a0_1 != 10) = false := bne_eq_false_iff_eq.mpr c25
                  clear c25
                  have H' := Aside0.mk H
                  clear H
                  go_wp2
                  go_meet
                  case rel => exact ⟨_, ((a0_1 == 10)), qq8, H', ⟨qq12⟩, ⟨bq BK101.out⟩, ⟨qS1 GE101 HB.out⟩⟩
                rw [if_neg c25] at H
                have c25b0 : (a0_1 == 10) = false := beq_eq_false_iff_ne.mpr c25
                have c25b1 : (a0_1 != 10) = true := bne_iff_ne.mpr c25
                by_cases c26 : a0_1 = 11
                rotate_left
                · rw [if_neg c26] at H
                  have c26b0 : (a0_1 == 11) = false := beq_eq_false_iff_ne.mpr c26
                  have c26b1 : (a0_1 != 11) = true := bne_iff_ne.mpr c26
                  have H' := Aside0.mk H
                  clear H
                  go_wp2
                  go_meet
                  case rel => exact ⟨_, ((a0_1 == 14)), qq8, H', ⟨qq12⟩, ⟨bq BK101.out⟩, ⟨qS1 GE101 HB.out⟩⟩
                rw [if_pos c26] at H
                have c26b0 : (a0_1 == 11) = true := beq_iff_eq.mpr c26
                have c26b1 : (a0_1 != 11) = false := bne_eq_false_iff_eq.mpr c26
                clear c26
                have H' := Aside0.mk H
                clear H
                go_wp2
                go_meet
                case rel => exact ⟨_, ((a0_1 == 11)), qq8, H', ⟨qq12⟩, ⟨bq BK101.out⟩, ⟨qS1 GE101 HB.out⟩⟩
              case rest =>
                clear HC21
                try clear c1
                try clear c2
                try clear p2
                try clear c3
                try clear c5
                try clear c8
                try clear c10
                try clear c10b0
                try clear c10b1
                try clear c12
                try clear c18
                try clear c18b0
                try clear c18b1
                try clear c23
                try clear c23b0
                try clear c23b1
                try clear c24
                try clear c24b0
                try clear c24b1
                try clear c25
                try clear c25b0
                try clear c25b1
                try clear c26
                try clear c26b0
                try clear c26b1
                try clear hcz14_0
                try clear hcz14_1
                try clear hcz14_2
                try clear hcz14_3
                try clear hcz14_4
                try clear hcz14_5
                try clear hcz15_0
                try clear hcz15_1
                try clear hcz15_2
                try clear hcz15_3
                try clear hcz15_4
                try clear hcz15_5
                try clear hcz16_0
                try clear hcz16_1
                try clear hcz16_2
                try clear hcz16_3
                try clear hcz16_4
                try clear hcz16_5
                try clear hcz19_0
                try clear hcz19_1
                try clear hcz19_2
                try clear hcz19_3
                try clear hcz19_4
                try clear hcz19_5
                try clear hcz20_0
                try clear hcz20_1
                try clear hcz20_2
                try clear hcz20_3
                try clear hcz20_4
                try clear hcz20_5
                try clear hcz22_0
                try clear hcz22_1
                try clear hcz22_2
                try clear hcz22_3
                try clear hcz22_4
                try clear hcz22_5
                try clear hcz6_0
                try clear hcz6_1
                try clear hcz6_2
                try clear hcz6_3
                try clear hcz6_4
                try clear hcz6_5
                try clear hcz7_0
                try clear hcz7_1
                try clear hcz7_2
                try clear hcz7_3
                try clear hcz7_4
                try clear hcz7_5
                try clear hfz14_0
                try clear hfz14_1
                try clear hfz14_2
                try clear hfz14_3
                try clear hfz14_4
                try clear hfz14_5
                try clear hfz15_0
                try clear hfz15_1
                try clear hfz15_2
                try clear hfz15_3
                try clear hfz15_4
                try clear hfz15_5
                try clear hfz16_0
                try clear hfz16_1
                try clear hfz16_2
                try clear hfz16_3
                try clear hfz16_4
                try clear hfz16_5
                try clear hfz19_0
                try clear hfz19_1
                try clear hfz19_2
                try clear hfz19_3
                try clear hfz19_4
                try clear hfz19_5
                try clear hfz20_0
                try clear hfz20_1
                try clear hfz20_2
                try clear hfz20_3
                try clear hfz20_4
                try clear hfz20_5
                try clear hfz22_0
                try clear hfz22_1
                try clear hfz22_2
                try clear hfz22_3
                try clear hfz22_4
                try clear hfz22_5
                try clear hfz6_0
                try clear hfz6_1
                try clear hfz6_2
                try clear hfz6_3
                try clear hfz6_4
                try clear hfz6_5
                try clear hfz7_0
                try clear hfz7_1
                try clear hfz7_2
                try clear hfz7_3
                try clear hfz7_4
                try clear hfz7_5
                try clear p2
                obtain ⟨kq, x38_20, rfl, HA, HJ20, BK101, HB⟩ := hcut
                cases kq with
                | zero => exact absurd HA.out (by simp [wire_Right.j3])
                | succ kj20 =>
                  have H := HA.out
                  clear HA
                  simp only [wire_Right.j3] at H
                  by_cases c27 : x38_20 = true
                  · subst c27
                    have H1 : (if x3_8 = true then ((wire_within.f a0_4 0 127).bind fun t105 => (some t105)) else (some false)) = some r := by rw [if_pos rfl] at H; exact H
                    clear H
                    have H := H1
                    clear H1
                    by_cases c28 : x3_8 = true
                    rotate_left
                    · replace c28 := Bool.eq_false_iff.mpr c28
                      subst c28
                      have H1 : (some false) = some r := by rw [if_neg (show ¬ (false = true) by decide)] at H; exact H
                      clear H
                      have H := H1
                      clear H1
                      obtain rfl := Option.some.inj H
                      go_wp2
                      go_ret
                      exact ⟨qq5, qS1 GE101 HB.out⟩
                    subst c28
                    have H1 : ((wire_within.f a0_4 0 127).bind fun t105 => (some t105)) = some r := by rw [if_pos rfl] at H; exact H
                    clear H
                    have H := H1
                    clear H1
                    replace H := Option.bind_eq_some_iff.mp H
                    obtain ⟨t105, A290, H⟩ := H
                    try dsimp -simprocs only at H
                    have A29 := Aside0.mk A290
                    clear A290
                    obtain rfl := Option.some.inj H
                    obtain ⟨hcz30_0, hcz30_1, hcz30_2, hcz30_3, hcz30_4, hcz30_5, hfz30_0, hfz30_1, hfz30_2, hfz30_3, hfz30_4, hfz30_5⟩ := blk6 BK101.out
                    go_wp2_with (first | (go_at_call 58; (with_reducible refine (wire_within.calls a0_4 0 127 t105 _ A29.out).mono ?_); rintro e w' ⟨rfl, ⟨nd, rfl⟩⟩))
                    go_ret
                    exact ⟨qq5, qS1 GE101 HB.out⟩
                  replace c27 := Bool.eq_false_iff.mpr c27
                  subst c27
                  have H1 : (if a0_1 = 12 then (wire_Right.j4 kj20 x3_8 x4_16 a0_1 (a0_1 == 12) a0_0 a0_1 a0_2 a0_3 a0_4 a0_5) else (wire_Right.j4 kj20 x3_8 x4_16 a0_1 (a0_1 == 13) a0_0 a0_1 a0_2 a0_3 a0_4 a0_5)) = some r := by rw [if_neg (show ¬ (false = true) by decide)] at H; exact H
                  clear H
                  have H := H1
                  clear H1
                  have HC31 := Aside0.mk H
                  clear H
                  go_upto_if 50 with (fail)
                  go_cut [50] (fun v50 wc => ∃ (kq : Nat) (x50_30 : Bool), v50 = .bool x50_30 ∧ Aside0 (wire_Right.j4 kq x3_8 x4_16 a0_1 x50_30 a0_0 a0_1 a0_2 a0_3 a0_4 a0_5 = some r) ∧ Aside0 (kq ≤ kj20) ∧ Aside0 (wc.heap[gb101]? = some (.cells #[.int .i64 a0_0, .int .i64 a0_1, .int .i64 a0_2, .int .i64 a0_3, .int .i64 a0_4, .string a0_5] 28 (0, 0))) ∧ Aside0 (Below w.heap.size w wc))
                  case first =>
                    have H := HC31.out
                    clear HC31
                    by_cases c32 : a0_1 = 12
                    rotate_left
                    · rw [if_neg c32] at H
                      have c32b0 : (a0_1 == 12) = false := beq_eq_false_iff_ne.mpr c32
                      have c32b1 : (a0_1 != 12) = true := bne_iff_ne.mpr c32
                      (first | rw [c32b0] | (simp only [i64_w, i32_w]; rw [c32b0]) | skip)
                      have H' := Aside0.mk H
                      clear H
                      go_wp2
                      go_meet
                      case rel => exact ⟨_, ((a0_1 == 13)), qq8, H', ⟨qq1D⟩, ⟨bq BK101.out⟩, ⟨qS1 GE101 HB.out⟩⟩
                    rw [if_pos c32] at H
                    have c32b0 : (a0_1 == 12) = true := beq_iff_eq.mpr c32
                    have c32b1 : (a0_1 != 12) = false := bne_eq_false_iff_eq.mpr c32
                    clear c32
                    (first | rw [c32b0] | (simp only [i64_w, i32_w]; rw [c32b0]) | skip)
                    have H' := Aside0.mk H
                    clear H
                    go_wp2
                    go_meet
                    case rel => exact ⟨_, ((a0_1 == 12)), qq8, H', ⟨qq1D⟩, ⟨bq BK101.out⟩, ⟨qS1 GE101 HB.out⟩⟩
                  case rest =>
                    clear HC31
                    try clear c1
                    try clear c2
                    try clear p2
                    try clear c3
                    try clear c5
                    try clear c8
                    try clear c10
                    try clear c10b0
                    try clear c10b1
                    try clear c12
                    try clear c18
                    try clear c18b0
                    try clear c18b1
                    try clear c23
                    try clear c23b0
                    try clear c23b1
                    try clear c24
                    try clear c24b0
                    try clear c24b1
                    try clear c25
                    try clear c25b0
                    try clear c25b1
                    try clear c26
                    try clear c26b0
                    try clear c26b1
                    try clear c27
                    try clear c28
                    try clear c32
                    try clear c32b0
                    try clear c32b1
                    try clear hcz14_0
                    try clear hcz14_1
                    try clear hcz14_2
                    try clear hcz14_3
                    try clear hcz14_4
                    try clear hcz14_5
                    try clear hcz15_0
                    try clear hcz15_1
                    try clear hcz15_2
                    try clear hcz15_3
                    try clear hcz15_4
                    try clear hcz15_5
                    try clear hcz16_0
                    try clear hcz16_1
                    try clear hcz16_2
                    try clear hcz16_3
                    try clear hcz16_4
                    try clear hcz16_5
                    try clear hcz19_0
                    try clear hcz19_1
                    try clear hcz19_2
                    try clear hcz19_3
                    try clear hcz19_4
                    try clear hcz19_5
                    try clear hcz20_0
                    try clear hcz20_1
                    try clear hcz20_2
                    try clear hcz20_3
                    try clear hcz20_4
                    try clear hcz20_5
                    try clear hcz22_0
                    try clear hcz22_1
                    try clear hcz22_2
                    try clear hcz22_3
                    try clear hcz22_4
                    try clear hcz22_5
                    try clear hcz30_0
                    try clear hcz30_1
                    try clear hcz30_2
                    try clear hcz30_3
                    try clear hcz30_4
                    try clear hcz30_5
                    try clear hcz6_0
                    try clear hcz6_1
                    try clear hcz6_2
                    try clear hcz6_3
                    try clear hcz6_4
                    try clear hcz6_5
                    try clear hcz7_0
                    try clear hcz7_1
                    try clear hcz7_2
                    try clear hcz7_3
                    try clear hcz7_4
                    try clear hcz7_5
                    try clear hfz14_0
                    try clear hfz14_1
                    try clear hfz14_2
                    try clear hfz14_3
                    try clear hfz14_4
                    try clear hfz14_5
                    try clear hfz15_0
                    try clear hfz15_1
                    try clear hfz15_2
                    try clear hfz15_3
                    try clear hfz15_4
                    try clear hfz15_5
                    try clear hfz16_0
                    try clear hfz16_1
                    try clear hfz16_2
                    try clear hfz16_3
                    try clear hfz16_4
                    try clear hfz16_5
                    try clear hfz19_0
                    try clear hfz19_1
                    try clear hfz19_2
                    try clear hfz19_3
                    try clear hfz19_4
                    try clear hfz19_5
                    try clear hfz20_0
                    try clear hfz20_1
                    try clear hfz20_2
                    try clear hfz20_3
                    try clear hfz20_4
                    try clear hfz20_5
                    try clear hfz22_0
                    try clear hfz22_1
                    try clear hfz22_2
                    try clear hfz22_3
                    try clear hfz22_4
                    try clear hfz22_5
                    try clear hfz30_0
                    try clear hfz30_1
                    try clear hfz30_2
                    try clear hfz30_3
                    try clear hfz30_4
                    try clear hfz30_5
                    try clear hfz6_0
                    try clear hfz6_1
                    try clear hfz6_2
                    try clear hfz6_3
                    try clear hfz6_4
                    try clear hfz6_5
                    try clear hfz7_0
                    try clear hfz7_1
                    try clear hfz7_2
                    try clear hfz7_3
                    try clear hfz7_4
                    try clear hfz7_5
                    try clear p2
                    obtain ⟨kq, x50_30, rfl, HA, HJ30, BK101, HB⟩ := hcut
                    cases kq with
                    | zero => exact absurd HA.out (by simp [wire_Right.j4])
                    | succ kj30 =>
                      have H := HA.out
                      clear HA
                      simp only [wire_Right.j4] at H
                      by_cases c33 : x50_30 = true
                      · subst c33
                        have H1 : (if x3_8 = true then (some (a0_4 == 0)) else (some false)) = some r := by rw [if_pos rfl] at H; exact H
                        clear H
                        have H := H1
                        clear H1
                        by_cases c34 : x3_8 = true
                        · subst c34
                          have H1 : (some (a0_4 == 0)) = some r := by rw [if_pos rfl] at H; exact H
                          clear H
                          have H := H1
                          clear H1
                          obtain rfl := Option.some.inj H
                          obtain ⟨hcz35_0, hcz35_1, hcz35_2, hcz35_3, hcz35_4, hcz35_5, hfz35_0, hfz35_1, hfz35_2, hfz35_3, hfz35_4, hfz35_5⟩ := blk6 BK101.out
                          go_wp2
                          go_ret
                          exact ⟨qq5, qS1 GE101 HB.out⟩
                        replace c34 := Bool.eq_false_iff.mpr c34
                        subst c34
                        have H1 : (some false) = some r := by rw [if_neg (show ¬ (false = true) by decide)] at H; exact H
                        clear H
                        have H := H1
                        clear H1
                        obtain rfl := Option.some.inj H
                        go_wp2
                        go_ret
                        exact ⟨qq5, qS1 GE101 HB.out⟩
                      replace c33 := Bool.eq_false_iff.mpr c33
                      subst c33
                      have H1 : (if a0_1 = 15 then (if x4_16 = true then (if a0_3 = 240 then (some true) else (some (a0_3 == 247))) else (some false)) else (if a0_1 = 16 then (if x4_16 = true then ((wire_within.f a0_3 0 127).bind fun t106 => (some t106)) else (some false)) else (some false))) = some r := by rw [if_neg (show ¬ (false = true) by decide)] at H; exact H
                      clear H
                      have H := H1
                      clear H1
                      by_cases c36 : a0_1 = 15
                      · rw [if_pos c36] at H
                        have c36b0 : (a0_1 == 15) = true := beq_iff_eq.mpr c36
                        have c36b1 : (a0_1 != 15) = false := bne_eq_false_iff_eq.mpr c36
                        clear c36
                        by_cases c37 : x4_16 = true
                        rotate_left
                        · replace c37 := Bool.eq_false_iff.mpr c37
                          subst c37
                          have H1 : (some false) = some r := by rw [if_neg (show ¬ (false = true) by decide)] at H; exact H
                          clear H
                          have H := H1
                          clear H1
                          obtain rfl := Option.some.inj H
                          go_wp2
                          go_ret
                          exact ⟨qq5, qS1 GE101 HB.out⟩
                        subst c37
                        have H1 : (if a0_3 = 240 then (some true) else (some (a0_3 == 247))) = some r := by rw [if_pos rfl] at H; exact H
                        clear H
                        have H := H1
                        clear H1
                        by_cases c38 : a0_3 = 240
                        rotate_left
                        · rw [if_neg c38] at H
                          have c38b0 : (a0_3 == 240) = false := beq_eq_false_iff_ne.mpr c38
                          have c38b1 : (a0_3 != 240) = true := bne_iff_ne.mpr c38
                          obtain rfl := Option.some.inj H
                          obtain ⟨hcz40_0, hcz40_1, hcz40_2, hcz40_3, hcz40_4, hcz40_5, hfz40_0, hfz40_1, hfz40_2, hfz40_3, hfz40_4, hfz40_5⟩ := blk6 BK101.out
                          go_wp2
                          go_ret
                          exact ⟨qq5, qS1 GE101 HB.out⟩
                        rw [if_pos c38] at H
                        have c38b0 : (a0_3 == 240) = true := beq_iff_eq.mpr c38
                        have c38b1 : (a0_3 != 240) = false := bne_eq_false_iff_eq.mpr c38
                        clear c38
                        obtain rfl := Option.some.inj H
                        obtain ⟨hcz39_0, hcz39_1, hcz39_2, hcz39_3, hcz39_4, hcz39_5, hfz39_0, hfz39_1, hfz39_2, hfz39_3, hfz39_4, hfz39_5⟩ := blk6 BK101.out
                        go_wp2
                        go_ret
                        exact ⟨qq5, qS1 GE101 HB.out⟩
                      rw [if_neg c36] at H
                      have c36b0 : (a0_1 == 15) = false := beq_eq_false_iff_ne.mpr c36
                      have c36b1 : (a0_1 != 15) = true := bne_iff_ne.mpr c36
                      by_cases c41 : a0_1 = 16
                      rotate_left
                      · rw [if_neg c41] at H
                        have c41b0 : (a0_1 == 16) = false := beq_eq_false_iff_ne.mpr c41
                        have c41b1 : (a0_1 != 16) = true := bne_iff_ne.mpr c41
                        obtain rfl := Option.some.inj H
                        go_wp2
                        go_ret
                        exact ⟨qq5, qS1 GE101 HB.out⟩
                      rw [if_pos c41] at H
                      have c41b0 : (a0_1 == 16) = true := beq_iff_eq.mpr c41
                      have c41b1 : (a0_1 != 16) = false := bne_eq_false_iff_eq.mpr c41
                      clear c41
                      by_cases c42 : x4_16 = true
                      rotate_left
                      · replace c42 := Bool.eq_false_iff.mpr c42
                        subst c42
                        have H1 : (some false) = some r := by rw [if_neg (show ¬ (false = true) by decide)] at H; exact H
                        clear H
                        have H := H1
                        clear H1
                        obtain rfl := Option.some.inj H
                        go_wp2
                        go_ret
                        exact ⟨qq5, qS1 GE101 HB.out⟩
                      subst c42
                      have H1 : ((wire_within.f a0_3 0 127).bind fun t106 => (some t106)) = some r := by rw [if_pos rfl] at H; exact H
                      clear H
                      have H := H1
                      clear H1
                      replace H := Option.bind_eq_some_iff.mp H
                      obtain ⟨t106, A430, H⟩ := H
                      try dsimp -simprocs only at H
                      have A43 := Aside0.mk A430
                      clear A430
                      obtain rfl := Option.some.inj H
                      obtain ⟨hcz44_0, hcz44_1, hcz44_2, hcz44_3, hcz44_4, hcz44_5, hfz44_0, hfz44_1, hfz44_2, hfz44_3, hfz44_4, hfz44_5⟩ := blk6 BK101.out
                      go_wp2_with (first | (go_at_call 58; (with_reducible refine (wire_within.calls a0_3 0 127 t106 _ A43.out).mono ?_); rintro e w' ⟨rfl, ⟨nd, rfl⟩⟩))
                      go_ret
                      exact ⟨qq5, qS1 GE101 HB.out⟩
def wire_number.part (b n : Int) : List Int := if b ≤ n then [n / b % 128 + 128] else []
def wire_number.num (n : Int) : List Int := wire_number.part 2097152 n ++ wire_number.part 16384 n ++ wire_number.part 128 n ++ [n % 128]
def wire_number.f (a0 : Int) : Option (List Int) := if 0 ≤ a0 then (if a0 ≤ 268435455 then (some (wire_number.num a0)) else (none)) else (none)
theorem info5t : (Try.prog.info? 5).map (fun i => (i.zero, i.size, i.bytes)) = some (some (.int .u8 0), 1, 1) := by kernel_rfl
def PartPost (base Bn Bo : Nat) (n : Int) (xs : List Value) (w w' : World) : Prop :=
  ∃ v : Value, w'.heap[Bo]? = some (.cells #[v] 39 (0, 0)) ∧ w'.heap[Bn]? = some (.cells #[.int .i64 n] 3 (0, 0)) ∧ w'.ownsRow base 5 1 v xs.length xs ∧ v.ownBlock ≠ some Bo ∧ v.ownBlock ≠ some Bn ∧ Below base w w' ∧ base ≤ w'.heap.size
theorem part_end {n : Int} {Bn Bo base gg cap : Nat} {v : Value} {xs : List Value} {w w1 : World} {x : Value}
    (hN : w.heap[Bn]? = some (.cells #[.int .i64 n] 3 (0, 0))) (hO : w.heap[Bo]? = some (.cells #[v] 39 (0, 0))) (hbase : base ≤ w.heap.size) (hbo : base ≤ Bo) (hown : w.ownsRow base 5 1 v xs.length xs)
    (ao : v.ownBlock ≠ some Bo) (an : v.ownBlock ≠ some Bn) (hno : Bn ≠ Bo)
    (hown1 : w1.ownsRow base 5 1 (.slice (some ⟨gg, 0, none⟩) (xs.length + 1) cap) (xs.length + 1) (xs ++ [x]))
    (hgrow : (w.alloc (.cells #[x] 5)).drew.grownBy w1 v.ownBlock) (hat : v.ownBlock = some gg ∨ gg = w.heap.size + 1) :
    PartPost base Bn Bo n (xs ++ [x]) w (w1.setCell ⟨Bo, 0, none⟩ (.slice (some ⟨gg, 0, none⟩) (xs.length + 1) cap)) := by
  have lo := lt_of_block hO
  have ln := lt_of_block hN
  have gO : gg ≠ Bo := by
    rcases hat with h | h
    · intro e; exact ao (by rw [h, e])
    · omega
  have gN : gg ≠ Bn := by
    rcases hat with h | h
    · intro e; exact an (by rw [h, e])
    · omega
  have bO1 : w1.heap[Bo]? = some (.cells #[v] 39 (0, 0)) := by
    rw [hgrow.block Bo (by simp; omega) (Ne.symm ao)]
    exact (Below.heap_alloc _ _ _ lo).trans hO
  have bN1 : w1.heap[Bn]? = some (.cells #[.int .i64 n] 3 (0, 0)) := by
    rw [hgrow.block Bn (by simp; omega) (Ne.symm an)]
    exact (Below.heap_alloc _ _ _ ln).trans hN
  have hB1 : Below base w w1 := (((Below.refl base w).alloc hbase _).drew).grown hgrow (by simp; omega) (fun k hk => own_base hown k hk)
  refine ⟨.slice (some ⟨gg, 0, none⟩) (xs.length + 1) cap, one_setCell bO1, ?_, ?_, ?_, ?_, ?_, ?_⟩
  · rw [Below.heap_setCell _ _ _ _ hno]; exact bN1
  · simpa using ownsRow_setCell_other hown1 (a := ⟨Bo, 0, none⟩) (by simpa [Value.ownBlock] using gO) _
  · simpa [Value.ownBlock] using gO
  · simpa [Value.ownBlock] using gN
  · exact hB1.setCell (p := ⟨Bo, 0, none⟩) hbo _
  · have := hB1.size; simp; omega
set_option maxRecDepth 100000 in
set_option maxHeartbeats 1600000 in
theorem part_yes (b n : Int) (Bn Bo base : Nat) (v : Value) (xs : List Value) (w : World) (hb0 : 1 ≤ b) (hb1 : b ≤ 2097152) (hn0 : 0 ≤ n) (hn1 : n ≤ 268435455) (hge : b ≤ n)
    (hN : w.heap[Bn]? = some (.cells #[.int .i64 n] 3 (0, 0))) (hO : w.heap[Bo]? = some (.cells #[v] 39 (0, 0)))
    (hown : w.ownsRow base 5 1 v xs.length xs) (hlen : xs.length ≤ 1000) (hbase : base ≤ w.heap.size)
    (ao : v.ownBlock ≠ some Bo) (an : v.ownBlock ≠ some Bn) (hno : Bn ≠ Bo) (hbo : base ≤ Bo) :
    Calls Try.prog 59 #[.int .i64 b, .pointer (some ⟨Bn, 0, none⟩), .pointer (some ⟨Bo, 0, none⟩)] w fun e w' => e = .returned (.tuple #[]) ∧ PartPost base Bn Bo n (xs ++ [.int .u8 (n / b % 128 + 128)]) w w' := by
  obtain ⟨i0, hi0, hz0, hz1, hz2⟩ := info_parts info5t
  have lo := lt_of_block hO
  have ln := lt_of_block hN
  have cN := cell_of_one hN
  have cO := cell_of_one hO
  have fO := free_of_one hO
  have hd : decide (b ≤ n) = true := decide_eq_true hge
  have hq0 : 0 ≤ n / b := Int.ediv_nonneg hn0 (by omega)
  have hm0 : 0 ≤ n / b % 128 := Int.emod_nonneg _ (by decide)
  have hm1 : n / b % 128 < 128 := Int.emod_lt_of_pos _ (by decide)
  have hs1 : IntKind.i64.wrap (n / b % 128 + 128) = n / b % 128 + 128 := IntWalk.i64_in _ (by omega)
  have hs2 : IntKind.u8.wrap (n / b % 128 + 128) = n / b % 128 + 128 := by rw [IntKind.wrap, if_neg (by simp [IntKind.signed])]; simp [IntKind.bits]; omega
  have hs3 : (n / b).tmod 128 = n / b % 128 := Int.tmod_eq_emod_of_nonneg hq0
  have hs4 : IntKind.i64.wrap (n.tdiv b) = n / b := by rw [Int.tdiv_eq_ediv_of_nonneg hn0]; exact IntWalk.i64_in _ (by have := Int.ediv_le_self b hn0; omega)
  have hbz : (b == 0) = false := beq_eq_false_iff_ne.mpr (by omega)
  have hbz' : ¬ b = 0 := by omega
  go_enter Try.func59, Try.ntmps59
  go_wp2_with fail
  go_region_law (refine step_append_lies _ (by rfl) _ _ _ (by rfl) base 5 i0 _ 1 1 Try.underlying39 hi0 hz0 hz1 hz2 rfl (by omega) v xs.length xs (by rfl) ((hown.alloc _).drew) ⟨w.heap.size, 0, none⟩ 1 1 [.int .u8 (n / b % 128 + 128)] (by rfl) (by rfl) (World.news_of_block (heap_alloc_new w _)) (by simp [Value.oneCell']) (by omega) (by unfold maxLen; omega) (by omega) (by simp; omega) (w.heap.size + 1) (by simp) ?_; intro gg cap w1 hown1 hgrow hat hlt; have c1 : w1.cell? ⟨Bo, 0, none⟩ = some v := (by rw [hgrow.cell_far _ (by simp; omega) (by simpa using Ne.symm ao)]; exact (World.cell?_alloc_lt _ _ _ lo).trans cO); have f1 : w1.frozen? ⟨Bo, 0, none⟩ = false := (by rw [hgrow.frozen_far _ (by simp; omega) (by simpa using Ne.symm ao)]; exact (frozen?_alloc_cells _ _ _ _).trans fO))
  all_goals
    refine bodyPost_end (results_none rfl _ _ _) rfl ?_
    exact ⟨rfl, part_end hN hO hbase hbo hown ao an hno hown1 hgrow hat⟩
set_option maxRecDepth 100000 in
theorem part_no (b n : Int) (Bn Bo : Nat) (w : World) (hge : n < b)
    (hN : w.heap[Bn]? = some (.cells #[.int .i64 n] 3 (0, 0))) :
    Calls Try.prog 59 #[.int .i64 b, .pointer (some ⟨Bn, 0, none⟩), .pointer (some ⟨Bo, 0, none⟩)] w fun e w' => e = .returned (.tuple #[]) ∧ w = w' := by
  have cN := cell_of_one hN
  have hd : decide (b ≤ n) = false := decide_eq_false (by omega)
  go_enter Try.func59, Try.ntmps59
  go_wp2_with fail
  go_end0
  exact ⟨rfl, rfl⟩
def partL (b n : Int) : List Value := if b ≤ n then [.int .u8 (n / b % 128 + 128)] else []
theorem partL_len (b n : Int) : (partL b n).length ≤ 1 := by unfold partL; split <;> simp
theorem part_any (b n : Int) (Bn Bo base : Nat) (v : Value) (xs : List Value) (w : World) (hb0 : 1 ≤ b) (hb1 : b ≤ 2097152) (hn0 : 0 ≤ n) (hn1 : n ≤ 268435455)
    (hN : w.heap[Bn]? = some (.cells #[.int .i64 n] 3 (0, 0))) (hO : w.heap[Bo]? = some (.cells #[v] 39 (0, 0)))
    (hown : w.ownsRow base 5 1 v xs.length xs) (hlen : xs.length ≤ 1000) (hbase : base ≤ w.heap.size)
    (ao : v.ownBlock ≠ some Bo) (an : v.ownBlock ≠ some Bn) (hno : Bn ≠ Bo) (hbo : base ≤ Bo) :
    Calls Try.prog 59 #[.int .i64 b, .pointer (some ⟨Bn, 0, none⟩), .pointer (some ⟨Bo, 0, none⟩)] w fun e w' => e = .returned (.tuple #[]) ∧ PartPost base Bn Bo n (xs ++ partL b n) w w' := by
  by_cases h : b ≤ n
  · unfold partL
    rw [if_pos h]
    exact part_yes b n Bn Bo base v xs w hb0 hb1 hn0 hn1 h hN hO hown hlen hbase ao an hno hbo
  · unfold partL
    rw [if_neg h, List.append_nil]
    refine (part_no b n Bn Bo w (by omega) hN).mono ?_
    rintro e w' ⟨rfl, rfl⟩
    exact ⟨rfl, v, hO, hN, hown, ao, an, Below.refl _ _, hbase⟩
def numV (n : Int) : List Value := partL 2097152 n ++ partL 16384 n ++ partL 128 n ++ [Value.int .u8 (n % 128)]
set_option maxRecDepth 100000 in
set_option maxHeartbeats 1600000 in
theorem number_any (n : Int) (w : World) (hn0 : 0 ≤ n) (hn1 : n ≤ 268435455) :
    Calls Try.prog 36 #[.int .i64 n] w fun e w' => ∃ v, e = .returned v ∧ w'.ownsRow w.heap.size 5 1 v (numV n).length (numV n) ∧ Below w.heap.size w w' := by
  obtain ⟨i0, hi0, hz0, hz1, hz2⟩ := info_parts info5t
  have hl1 := partL_len 2097152 n
  have hl2 := partL_len 16384 n
  have hl3 := partL_len 128 n
  have hm1 : 0 ≤ n % 128 := Int.emod_nonneg _ (by decide)
  have hm2 : n % 128 < 128 := Int.emod_lt_of_pos _ (by decide)
  have hs2 : IntKind.u8.wrap (n % 128) = n % 128 := by rw [IntKind.wrap, if_neg (by simp [IntKind.signed])]; simp [IntKind.bits]; omega
  have hs2' : n % 128 % 256 = n % 128 := by omega
  go_enter Try.func36, Try.ntmps36
  go_wp2_with fail
  refine (part_any 2097152 n w.heap.size (w.heap.size + 1) w.heap.size (.slice none 0 0) [] _ (by omega) (by omega) hn0 hn1 ?n1 ?o1 (own_nil _ _ _ _) (by simp) (by simp; omega) qqn qqn (by omega) (by omega)).mono ?_
  case n1 => rw [Below.heap_alloc _ _ _ (by simp)]; exact heap_alloc_new w _
  case o1 => simpa using heap_alloc_new (w.alloc (.cells #[.int .i64 n] 3)) (.cells #[.slice none 0 0] 39)
  rintro e w1 ⟨rfl, v1, hO1, hN1, ho1, ao1, an1, hB1, hs1⟩
  rw [List.nil_append] at ho1
  have HB1 : Hid (Below w.heap.size w w1) := Lib.hid ((((Below.refl _ w).alloc (Nat.le_refl _) _).alloc (by simp) _).trans hB1)
  clear hB1
  go_wp2_with fail
  refine (part_any 16384 n w.heap.size (w.heap.size + 1) w.heap.size v1 (partL 2097152 n) _ (by omega) (by omega) hn0 hn1 hN1 hO1 ho1 (by omega) hs1 ao1 an1 (by omega) (by omega)).mono ?_
  rintro e w2 ⟨rfl, v2, hO2, hN2, ho2, ao2, an2, hB2, hs2⟩
  have HB2 : Hid (Below w.heap.size w w2) := Lib.hid (HB1.out.trans hB2)
  clear hB2
  go_wp2_with fail
  refine (part_any 128 n w.heap.size (w.heap.size + 1) w.heap.size v2 (partL 2097152 n ++ partL 16384 n) _ (by omega) (by omega) hn0 hn1 hN2 hO2 ho2 (by simp; omega) hs2 ao2 an2 (by omega) (by omega)).mono ?_
  rintro e w3 ⟨rfl, v3, hO3, hN3, ho3, ao3, an3, hB3, hs3⟩
  have HB3 : Hid (Below w.heap.size w w3) := Lib.hid (HB2.out.trans hB3)
  clear hB3
  have cN := cell_of_one hN3
  have cO := cell_of_one hO3
  go_wp2_with (at_builtin; go_loud (refine print_append (w0 := w) w.heap.size rfl (.tmp 12) (.tmp 16) 39 5 (.int .u8 0) 1 rfl Try.underlying39 info5t rfl (by decide) v3 (partL 2097152 n ++ partL 16384 n ++ partL 128 n) (.int .u8 (n % 128)) rfl rfl rfl ?aO ?aB ?aS ?aL ?_); (case aO => exact ho3); (case aB => exact HB3.out); (case aS => exact hs3); (case aL => (simp; omega)); intro v4 w4 ho4 hb4 _ _)
  go_ret
  exact ⟨v4, rfl, ho4, hb4⟩
theorem partL_nums (b n : Int) : partL b n = nums .u8 (wire_number.part b n) := by
  unfold partL wire_number.part nums
  split <;> simp
theorem numV_nums (n : Int) : numV n = nums .u8 (wire_number.num n) := by
  unfold numV wire_number.num
  rw [nums_append, nums_append, nums_append, partL_nums, partL_nums, partL_nums]
  rfl
theorem wire_number.calls (a0 : Int) (r : List Int) (w : World) (h : wire_number.f a0 = some r) :
    Calls Try.prog 36 #[.int .i64 a0] w fun e w' => ∃ v0_ : Value, e = .returned (v0_) ∧ Kd.R (Kd.int .u8) 5 w' w.heap.size (fun _ => True) v0_ r ∧ Below w.heap.size w w' := by
  unfold wire_number.f at h
  by_cases h0 : 0 ≤ a0
  · by_cases h1 : a0 ≤ 268435455
    · rw [if_pos h0, if_pos h1] at h
      obtain rfl := Option.some.inj h
      refine (number_any a0 w h0 h1).mono ?_
      rintro e w' ⟨v, rfl, ho, hb⟩
      rw [numV_nums, nums_length] at ho
      exact ⟨v, rfl, Kd.R_of_own (enc := Value.int .u8) (h1 := fun _ => rfl) (ok := fun _ => True) ho (fun _ _ => trivial), hb⟩
    · rw [if_pos h0, if_neg h1] at h
      cases h
  · rw [if_neg h0] at h
    cases h
end Go.Proofs.Ytdmnknhlibaaoaa.M
