/- Functions and contracts printed by a program of this session (wip/tools), and texts by hand: Print, Parse, and the plain answers (part 6). -/
import Derived.KernelRfl
import Derived.Deep.Slices
import Derived.Deep.Fields
import Derived.ChangeSame
import Derived.ChangeArms
import Derived.OpenShut
import Derived.Test.YtdmnknhlibaaoaaCW
import Derived.Test.YtdmnknhlibaaoaaC5
import Derived.Test.YtdmnknhlibaaoaaC1
import Derived.Test.YtdmnknhlibaaoaaC2
import Derived.Test.YtdmnknhlibaaoaaC4
import Derived.Test.YtdmnknhlibaaoaaC3
import Derived.Test.YtdmnknhlibaaoaaC0
namespace Go.Proofs.Ytdmnknhlibaaoaa.Z
open Go.RowKit Go.Proofs.YtdmnknhlibaaoaaW.PrintWords Go.Proofs.Ytdmnknhlibaaoaa.M
set_option linter.unusedVariables false
abbrev J1 := N0
def part (b n : Int) : List Int := if b ≤ n then [n / b % 128 + 128] else []
def num (n : Int) : List Int := part 2097152 n ++ part 16384 n ++ part 128 n ++ [n % 128]
def AB : Nat → Int → List Int → Except Int (Int × List Int)
 | 0, _, _ => .error 150
 | _ + 1, _, [] => .error 152
 | i + 1, n, c :: r => if c < 128 then .ok (n * 128 + c, r) else AB i (n * 128 + (c - 128)) r
theorem ai3 (i : Nat) (n : Int) : AB (i + 1) n [] = .error 152 := rfl
theorem nZ {i : Nat} {n c : Int} {r : List Int} (h : c < 128) : AB (i + 1) n (c :: r) = .ok (n * 128 + c, r) := by rw [AB, if_pos h]
theorem NY {i : Nat} {n c : Int} {r : List Int} (h : ¬ c < 128) : AB (i + 1) n (c :: r) = AB i (n * 128 + (c - 128)) r := by rw [AB, if_neg h]
theorem RY {n : Int} (h0 : 0 ≤ n) (h : n < 128) : num n = [n] := by
 unfold num part
 rw [if_neg (by omega), if_neg (by omega), if_neg (by omega)]
 simp only [List.nil_append]
 congr 1; omega
theorem Gl {n : Int} (h0 : 128 ≤ n) (h : n < 16384) : num n = [n / 128 + 128, n % 128] := by
 unfold num part
 rw [if_neg (by omega), if_neg (by omega), if_pos (by omega)]
 simp only [List.nil_append, List.cons_append]
 congr 1; omega
theorem aq6 {n : Int} (h0 : 16384 ≤ n) (h : n < 2097152) : num n = [n / 16384 + 128, n / 128 % 128 + 128, n % 128] := by
 unfold num part
 rw [if_neg (by omega), if_pos (by omega), if_pos (by omega)]
 simp only [List.nil_append, List.cons_append]
 congr 1; omega
theorem cm7 {n : Int} (h0 : 2097152 ≤ n) (h : n ≤ 268435455) : num n = [n / 2097152 + 128, n / 16384 % 128 + 128, n / 128 % 128 + 128, n % 128] := by
 unfold num part
 rw [if_pos (by omega), if_pos (by omega), if_pos (by omega)]
 simp only [List.nil_append, List.cons_append]
 congr 1; omega
theorem dN (n : Int) : 1 ≤ (num n).length ∧ (num n).length ≤ 4 := by
 unfold num part
 split <;> split <;> split <;> simp
theorem aq4 {n : Int} (h0 : 0 ≤ n) : Bytes (num n) := by
 unfold num part
 have h1 := Int.emod_nonneg (n / 2097152) (b := 128) (by decide)
 have h2 := Int.emod_lt_of_pos (n / 2097152) (b := 128) (by decide)
 have h3 := Int.emod_nonneg (n / 16384) (b := 128) (by decide)
 have h4 := Int.emod_lt_of_pos (n / 16384) (b := 128) (by decide)
 have h5 := Int.emod_nonneg (n / 128) (b := 128) (by decide)
 have h6 := Int.emod_lt_of_pos (n / 128) (b := 128) (by decide)
 have h7 := Int.emod_nonneg n (b := 128) (by decide)
 have h8 := Int.emod_lt_of_pos n (b := 128) (by decide)
 refine Bytes.append (Bytes.append (Bytes.append ?_ ?_) ?_) (Bytes.cons (by omega) (by omega) Bytes.nil)
 all_goals
  split
  ·exact Bytes.cons (by omega) (by omega) Bytes.nil
  ·exact Bytes.nil
theorem Wm : ∀ {i : Nat} {n m : Int} {r r' : List Int}, Bytes r → AB i n r = .ok (m, r') → ∃ p : List Int, r = p ++ r' ∧ 1 ≤ p.length ∧ p.length ≤ i ∧ n * 128 ^ p.length ≤ m ∧ m < (n + 1) * 128 ^ p.length
 | 0, _, _, _, _, _, h => by cases h
 | i + 1, n, m, [], r', _, h => by cases h
 | i + 1, n, m, c :: r, r', G, h => by
  have hc := G.head
  by_cases l4 : c < 128
  ·rw [nZ l4] at h
   injection h with h
   injection h with h1 h2
   subst h1 h2
   exact ⟨[c], rfl, by simp, by simp, by simp; omega, by simp; omega⟩
  ·rw [NY l4] at h
   obtain ⟨p, rfl, hp1, KW, WX, hhi⟩ := Wm G.tail h
   refine ⟨c :: p, rfl, by simp, by simp; omega, ?_, ?_⟩
   ·rw [List.length_cons, Int.pow_succ]
    have RZ : (0 : Int) < 128 ^ p.length := Int.pow_pos (by decide)
    have := Int.mul_le_mul_of_nonneg_right (show n * 128 ≤ n * 128 + (c - 128) by omega) (Int.le_of_lt RZ)
    have e : n * (128 ^ p.length * 128) = n * 128 * 128 ^ p.length := by rw [Int.mul_comm (128 ^ p.length) 128, Int.mul_assoc]
    omega
   ·rw [List.length_cons, Int.pow_succ]
    have RZ : (0 : Int) < 128 ^ p.length := Int.pow_pos (by decide)
    have := Int.mul_le_mul_of_nonneg_right (show n * 128 + (c - 128) + 1 ≤ (n + 1) * 128 by omega) (Int.le_of_lt RZ)
    have e : (n + 1) * (128 ^ p.length * 128) = (n + 1) * 128 * 128 ^ p.length := by rw [Int.mul_comm (128 ^ p.length) 128, Int.mul_assoc]
    omega
theorem MZ {m : Int} {r r' : List Int} (G : Bytes r) (h : AB 4 0 r = .ok (m, r')) : 0 ≤ m ∧ m ≤ 268435455 ∧ ∃ p : List Int, r = p ++ r' ∧ (num m).length ≤ p.length := by
 obtain ⟨p, rfl, h1, h2, h3, h4⟩ := Wm G h
 rw [Int.zero_mul] at h3
 rw [Int.zero_add, Int.one_mul] at h4
 have hl : p.length = 1 ∨ p.length = 2 ∨ p.length = 3 ∨ p.length = 4 := by omega
 rcases hl with e | e | e | e <;> rw [e] at h4 <;> simp at h4 <;> refine ⟨h3, by omega, p, rfl, ?_⟩
 ·rw [RY h3 (by omega), e]; simp
 ·by_cases a : m < 128
  ·rw [RY h3 a, e]; simp
  ·rw [Gl (by omega) (by omega), e]; simp
 ·by_cases a : m < 128
  ·rw [RY h3 a, e]; simp
  ·by_cases b : m < 16384
   ·rw [Gl (by omega) b, e]; simp
   ·rw [aq6 (by omega) (by omega), e]; simp
 ·rw [e]; exact (dN m).2
theorem fP : ∀ {i : Nat} {n e : Int} {r : List Int}, AB i n r = .error e → e = 150 ∨ e = 152
 | 0, _, _, _, h => by cases h; exact .inl rfl
 | i + 1, n, e, [], h => by cases h; exact .inr rfl
 | i + 1, n, e, c :: r, h => by
  by_cases l4 : c < 128
  ·rw [nZ l4] at h; cases h
  ·rw [NY l4] at h
   exact fP h
def low : List Int → Except Int (Int × List Int)
 | [] => .error 152
 | c :: r => if c ≥ 128 then .error 151 else .ok (c, r)
def xD (r : List Int) : Except Int (List Int × List Int) :=
 match AB 4 0 r with
 | .error e => .error e
 | .ok (n, r1) => if n > 100000 then .error 151 else if n > r1.length then .error 152 else .ok (r1.take n.toNat, r1.drop n.toNat)
def body (d c : Int) (r : List Int) : Except Int (J1 × Int × List Int) :=
 if c = 255 then
  match low r with
  | .error e => .error e
  | .ok (a, r1) => match xD r1 with
   | .error e => .error e
   | .ok (bs, r2) => .ok (⟨d, 16, 0, a, 0, strOfNums bs⟩, 0, r2)
 else if c ≥ 240 then
  match xD r with
  | .error e => .error e
  | .ok (bs, r2) => .ok (⟨d, 15, 0, c, 0, strOfNums bs⟩, 0, r2)
 else
  match low r with
  | .error e => .error e
  | .ok (a, r1) => if c / 16 = 12 ∨ c / 16 = 13 then .ok (⟨d, c / 16, c % 16, a, 0, ⟨#[]⟩⟩, c, r1) else
   match low r1 with
   | .error e => .error e
   | .ok (b, r2) => .ok (⟨d, c / 16, c % 16, a, b, ⟨#[]⟩⟩, c, r2)
def msg (last : Int) (r : List Int) : Except Int (J1 × Int × List Int) :=
 match AB 4 0 r with
 | .error e => .error e
 | .ok (_, []) => .error 152
 | .ok (d, c :: r1) => if c < 128 then (if last = 0 then .error 151 else body d last (c :: r1)) else if c > 240 ∧ c ≠ 247 ∧ c ≠ 255 then .error 151 else body d c r1
inductive eJ : Int → List Int → List J1 → Prop
 | nil (l : Int) : eJ l [] []
 | cons {l l' : Int} {r r' : List Int} {m : J1} {ms : List J1} : msg l r = .ok (m, l', r') → eJ l' r' ms → eJ l r (m :: ms)
inductive WJ : Int → List Int → Int → Nat → Prop
 | here {l e : Int} {r : List Int} : r ≠ [] → msg l r = .error e → WJ l r e r.length
 | later {l l' e : Int} {r r' : List Int} {m : J1} {n : Nat} : msg l r = .ok (m, l', r') → WJ l' r' e n → WJ l r e n
def iC (m : J1) : Prop := 0 ≤ m.f0 ∧ m.f0 ≤ 268435455 ∧ m.f5.size ≤ 100000 ∧
 ((8 ≤ m.f1 ∧ m.f1 ≤ 14 ∧ 0 ≤ m.f2 ∧ m.f2 ≤ 15 ∧ 0 ≤ m.f3 ∧ m.f3 ≤ 127 ∧ 0 ≤ m.f4 ∧ m.f4 ≤ 127 ∧ (m.f1 = 12 ∨ m.f1 = 13 → m.f4 = 0) ∧ m.f5.size = 0) ∨
  (m.f1 = 15 ∧ m.f2 = 0 ∧ m.f4 = 0 ∧ (m.f3 = 240 ∨ m.f3 = 247)) ∨ (m.f1 = 16 ∧ m.f2 = 0 ∧ m.f4 = 0 ∧ 0 ≤ m.f3 ∧ m.f3 ≤ 127))
instance (m : J1) : Decidable (iC m) := by unfold iC; infer_instance
def mF (l : Int) (m : J1) : List Int :=
 if m.f1 = 16 then num m.f0 ++ (255 :: m.f3 :: (num m.f5.size ++ bytesOf m.f5))
 else if m.f1 = 15 then num m.f0 ++ (m.f3 :: (num m.f5.size ++ bytesOf m.f5))
 else num m.f0 ++ ((if 16 * m.f1 + m.f2 = l then [] else [16 * m.f1 + m.f2]) ++ (m.f3 :: (if m.f1 = 12 ∨ m.f1 = 13 then [] else [m.f4])))
def cE (m : J1) : Int := if m.f1 = 16 then 0 else if m.f1 = 15 then 0 else 16 * m.f1 + m.f2
def enc : Int → List J1 → List Int
 | _, [] => []
 | l, m :: ms => mF l m ++ enc (cE m) ms
end Go.Proofs.Ytdmnknhlibaaoaa.Z
namespace Go.Proofs.Ytdmnknhlibaaoaa.Z
open Go.RowKit Go.Proofs.YtdmnknhlibaaoaaW.PrintWords Go.Proofs.Ytdmnknhlibaaoaa.M
set_option linter.unusedVariables false
theorem sP {a : Int} {r r' : List Int} (h : low r = .ok (a, r')) : r = a :: r' ∧ a < 128 := by
 cases r with
 | nil => cases h
 | cons c r =>
  by_cases hc : c ≥ 128
  ·rw [low, if_pos hc] at h; cases h
  ·rw [low, if_neg hc] at h
   injection h with h
   injection h with h1 h2
   subst h1 h2
   exact ⟨rfl, by omega⟩
theorem Il {bs r r' : List Int} (G : Bytes r) (h : xD r = .ok (bs, r')) : (bs.length : Int) ≤ 100000 ∧ Bytes bs ∧ ∃ p, r = p ++ (bs ++ r') ∧ (num bs.length).length ≤ p.length := by
 unfold xD at h
 cases hv : AB 4 0 r with
 | error e => rw [hv] at h; cases h
 | ok x =>
  obtain ⟨n, r1⟩ := x
  rw [hv] at h
  dsimp only at h
  obtain ⟨h0, _, p, hp, hl⟩ := MZ G hv
  by_cases c1 : n > 100000
  ·rw [if_pos c1] at h; cases h
  ·rw [if_neg c1] at h
   by_cases c2 : n > r1.length
   ·rw [if_pos c2] at h; cases h
   ·rw [if_neg c2] at h
    injection h with h
    injection h with e1 e2
    subst e1 e2
    have lE : Bytes r1 := by rw [hp] at G; exact G.right
    have hlen : ((r1.take n.toNat).length : Int) = n := by rw [List.length_take]; omega
    refine ⟨by omega, lE.take _, p, by rw [List.take_append_drop]; exact hp, by rw [hlen]; exact hl⟩
theorem Dn (d : Int) (r : List Int) : body d 255 r = (match low r with
 | .error e => .error e
 | .ok (a, r1) => match xD r1 with
  | .error e => .error e
  | .ok (bs, r2) => .ok (⟨d, 16, 0, a, 0, strOfNums bs⟩, 0, r2)) := by (unfold body; rw [if_pos rfl]) <;> rfl
theorem Vk {c : Int} (h : c ≠ 255) (h2 : c ≥ 240) (d : Int) (r : List Int) : body d c r = (match xD r with
 | .error e => .error e
 | .ok (bs, r2) => .ok (⟨d, 15, 0, c, 0, strOfNums bs⟩, 0, r2)) := by (unfold body; rw [if_neg h, if_pos h2]) <;> rfl
theorem Mm {c : Int} (h2 : c < 240) (d : Int) (r : List Int) : body d c r = (match low r with
 | .error e => .error e
 | .ok (a, r1) => if c / 16 = 12 ∨ c / 16 = 13 then .ok (⟨d, c / 16, c % 16, a, 0, ⟨#[]⟩⟩, c, r1) else
  match low r1 with
  | .error e => .error e
  | .ok (b, r2) => .ok (⟨d, c / 16, c % 16, a, b, ⟨#[]⟩⟩, c, r2)) := by (unfold body; rw [if_neg (by omega), if_neg (by omega)]) <;> rfl
theorem In {l d c : Int} {r r1 : List Int} (h : AB 4 0 r = .ok (d, c :: r1)) : msg l r = (if c < 128 then (if l = 0 then .error 151 else body d l (c :: r1)) else if c > 240 ∧ c ≠ 247 ∧ c ≠ 255 then .error 151 else body d c r1) := by
 unfold msg; rw [h]
def RH (l : Int) : Prop := l = 0 ∨ 128 ≤ l ∧ l < 240
theorem eP {m : J1} (hm : iC m) : RH (cE m) := by
 obtain ⟨f0, f1, f2, f3, f4, f5⟩ := m
 obtain ⟨h0, h1, h2, h⟩ := hm
 unfold cE RH
 dsimp only at h ⊢
 split
 ·exact .inl rfl
 ·split
  ·exact .inl rfl
  ·omega
theorem am1 {d c : Int} {r r' : List Int} {m : J1} {l' : Int} (GN : 0 ≤ d) (gK : d ≤ 268435455) (G : Bytes r) (h1 : 128 ≤ c) (h2 : c < 240) (h : body d c r = .ok (m, l', r')) :
 iC m ∧ l' = cE m ∧ m.f0 = d ∧ m.f1 ≠ 16 ∧ m.f1 ≠ 15 ∧ 16 * m.f1 + m.f2 = c ∧ ∃ p, r = p ++ r' ∧ p = m.f3 :: (if m.f1 = 12 ∨ m.f1 = 13 then [] else [m.f4]) := by
 rw [Mm h2] at h
 cases hl : low r with
 | error e => rw [hl] at h; cases h
 | ok x =>
  obtain ⟨a, r1⟩ := x
  rw [hl] at h
  dsimp only at h
  obtain ⟨rfl, ha⟩ := sP hl
  have Eg := G.head
  by_cases c3 : c / 16 = 12 ∨ c / 16 = 13
  ·rw [if_pos c3] at h
   injection h with h; injection h with e1 h; injection h with e2 e3; subst e1 e2 e3
   refine ⟨⟨GN, gK, by show (⟨#[]⟩ : ByteArray).size ≤ 100000; rw [ai4]; omega, .inl ?_⟩, ?_, rfl, ?_, ?_, ?_, [a], rfl, ?_⟩
   ·exact ⟨BD, BD, BD, BD, BD, BD, BD, BD, fun _ => rfl, rfl⟩
   ·unfold cE; dsimp only; rw [if_neg (by omega), if_neg (by omega)]; omega
   ·dsimp only; omega
   ·dsimp only; omega
   ·dsimp only; omega
   ·dsimp only; rw [if_pos c3]
  ·rw [if_neg c3] at h
   cases RC : low r1 with
   | error e => rw [RC] at h; cases h
   | ok y =>
    obtain ⟨b, r2⟩ := y
    rw [RC] at h
    dsimp only at h
    obtain ⟨rfl, C5⟩ := sP RC
    have IA := G.tail.head
    injection h with h; injection h with e1 h; injection h with e2 e3; subst e1 e2 e3
    refine ⟨⟨GN, gK, by show (⟨#[]⟩ : ByteArray).size ≤ 100000; rw [ai4]; omega, .inl ?_⟩, ?_, rfl, ?_, ?_, ?_, [a, b], rfl, ?_⟩
    ·exact ⟨BD, BD, BD, BD, BD, BD, BD, BD, fun hh => absurd hh c3, rfl⟩
    ·unfold cE; dsimp only; rw [if_neg (by omega), if_neg (by omega)]; omega
    ·dsimp only; omega
    ·dsimp only; omega
    ·dsimp only; omega
    ·dsimp only; rw [if_neg c3]
theorem iP {l l' : Int} {r r' : List Int} {m : J1} (hl : RH l) (G : Bytes r) (h : msg l r = .ok (m, l', r')) :
 iC m ∧ l' = cE m ∧ ∃ p, r = p ++ r' ∧ (mF l m).length ≤ p.length ∧ 1 ≤ p.length := by
 cases hv : AB 4 0 r with
 | error e => unfold msg at h; rw [hv] at h; cases h
 | ok x =>
  obtain ⟨d, r1⟩ := x
  cases r1 with
  | nil => unfold msg at h; rw [hv] at h; cases h
  | cons c r1 =>
   rw [In hv] at h
   obtain ⟨GN, gK, p, rfl, hp⟩ := MZ G hv
   have hnl := (dN d).1
   have lE : Bytes (c :: r1) := G.right
   have hc := lE.head
   by_cases c1 : c < 128
   ·rw [if_pos c1] at h
    by_cases c2 : l = 0
    ·rw [if_pos c2] at h; cases h
    ·rw [if_neg c2] at h
     have RC : 128 ≤ l ∧ l < 240 := by rcases hl with hl | hl <;> omega
     obtain ⟨hr, hn, DW, Ye, vU, oQ, q, hq, Gh⟩ := am1 GN gK lE RC.1 RC.2 h
     refine ⟨hr, hn, p ++ q, by rw [hq, List.append_assoc], ?_, vP⟩
     unfold mF
     rw [if_neg Ye, if_neg vU, if_pos oQ, DW, Gh]
     simp only [List.length_append, List.nil_append]
     omega
   ·rw [if_neg c1] at h
    by_cases c2 : c > 240 ∧ c ≠ 247 ∧ c ≠ 255
    ·rw [if_pos c2] at h; cases h
    ·rw [if_neg c2] at h
     by_cases c3 : c < 240
     ·obtain ⟨hr, hn, DW, Ye, vU, oQ, q, hq, Gh⟩ := am1 GN gK lE.tail (by omega) c3 h
      refine ⟨hr, hn, p ++ (c :: q), by rw [hq, List.append_assoc, List.cons_append], ?_, El⟩
      unfold mF
      rw [if_neg Ye, if_neg vU, DW, Gh]
      simp only [List.length_append, List.length_cons]
      split <;> simp <;> omega
     ·by_cases c4 : c = 255
      ·subst c4
       rw [Dn] at h
       cases WX : low r1 with
       | error e => rw [WX] at h; cases h
       | ok x =>
        obtain ⟨a, r2⟩ := x
        rw [WX] at h
        dsimp only at h
        obtain ⟨rfl, ha⟩ := sP WX
        have Eg := lE.tail.head
        cases sO : xD r2 with
        | error e => rw [sO] at h; cases h
        | ok y =>
         obtain ⟨bs, r3⟩ := y
         rw [sO] at h
         dsimp only at h
         obtain ⟨WV, Ti, q, rfl, hq⟩ := Il lE.tail.tail sO
         injection h with h; injection h with e1 h; injection h with e2 e3; subst e1 e2 e3
         refine ⟨⟨GN, gK, by show (strOfNums bs).size ≤ 100000; rw [P_]; omega, .inr (.inr ⟨rfl, rfl, rfl, Eg.1, by show a ≤ 127; omega⟩)⟩, rfl, p ++ (255 :: a :: (q ++ bs)), by simp [List.append_assoc], ?_, El⟩
         unfold mF
         rw [if_pos rfl, P_, lN Ti]
         simp only [List.length_append, List.length_cons]
         omega
      ·rw [Vk c4 (by omega)] at h
       cases sO : xD r1 with
       | error e => rw [sO] at h; cases h
       | ok y =>
        obtain ⟨bs, r3⟩ := y
        rw [sO] at h
        dsimp only at h
        obtain ⟨WV, Ti, q, rfl, hq⟩ := Il lE.tail sO
        injection h with h; injection h with e1 h; injection h with e2 e3; subst e1 e2 e3
        refine ⟨⟨GN, gK, by show (strOfNums bs).size ≤ 100000; rw [P_]; omega, .inr (.inl ⟨rfl, rfl, rfl, by show c = 240 ∨ c = 247; omega⟩)⟩, rfl, p ++ (c :: (q ++ bs)), by simp [List.append_assoc], ?_, El⟩
        unfold mF
        rw [if_neg (by show ¬ (15 : Int) = 16; decide), if_pos rfl, P_, lN Ti]
        simp only [List.length_append, List.length_cons]
        omega
end Go.Proofs.Ytdmnknhlibaaoaa.Z
namespace Go.Proofs.Ytdmnknhlibaaoaa.Z
open Go.RowKit Go.Proofs.YtdmnknhlibaaoaaW.PrintWords Go.Proofs.Ytdmnknhlibaaoaa.M
set_option linter.unusedVariables false
def zA (ms : List J1) : Prop := ∀ m ∈ ms, iC m
theorem zA.nil : zA [] := by intro m h; cases h
theorem zA.head {m : J1} {ms : List J1} (h : zA (m :: ms)) : iC m := h m (by simp)
theorem zA.tail {m : J1} {ms : List J1} (h : zA (m :: ms)) : zA ms := fun x hx => h x (by simp [hx])
theorem zA.cons {m : J1} {ms : List J1} (h : iC m) (k : zA ms) : zA (m :: ms) := by
 intro x hx
 rcases List.mem_cons.1 hx with rfl | hx
 ·exact h
 ·exact k x hx
theorem ah1 (l : Int) : enc l [] = [] := rfl
theorem vV (l : Int) (m : J1) (ms : List J1) : enc l (m :: ms) = mF l m ++ enc (cE m) ms := rfl
theorem ar3 : ∀ {ms : List J1} {l : Int} {r : List Int}, RH l → Bytes r → eJ l r ms → zA ms ∧ (enc l ms).length ≤ r.length ∧ ms.length ≤ r.length
 | _, _, _, _, _, .nil _ => ⟨.nil, Nat.le_refl _, Nat.le_refl _⟩
 | _, _, _, hl, G, .cons hm hd => by
  obtain ⟨h1, rfl, p, rfl, h2, h3⟩ := iP hl G hm
  obtain ⟨k1, k2, k3⟩ := ar3 (eP h1) G.right hd
  refine ⟨.cons h1 k1, ?_, ?_⟩
  ·rw [vV, List.length_append, List.length_append]; omega
  ·rw [List.length_append, List.length_cons]; omega
theorem ak4 : ∀ (n : Nat) (l : Int) (r : List Int), RH l → Bytes r → r.length ≤ n → (∃ ms, eJ l r ms) ∨ (∃ e k, WJ l r e k)
 | _, l, [], _, _, _ => .inl ⟨[], .nil l⟩
 | 0, l, c :: r, _, _, h => by simp at h
 | n + 1, l, c :: r, hl, G, h => by
  cases hm : msg l (c :: r) with
  | error e => exact .inr ⟨e, _, .here (by simp) hm⟩
  | ok x =>
   obtain ⟨m, l', r'⟩ := x
   obtain ⟨h1, rfl, p, hp, h2, h3⟩ := iP hl G hm
   have hlen : (c :: r).length = p.length + r'.length := by rw [hp, List.length_append]
   have hb' : Bytes r' := by rw [hp] at G; exact G.right
   rcases ak4 n (cE m) r' (eP h1) hb' (by omega) with ⟨ms, hd⟩ | ⟨e, k, hd⟩
   ·exact .inl ⟨_, .cons hm hd⟩
   ·exact .inr ⟨e, k, .later hm hd⟩
theorem cx9 {l e : Int} {r : List Int} {k : Nat} (h : WJ l r e k) : RH l → Bytes r → 0 < k ∧ k ≤ r.length := by
 induction h with
 | here J8 _ => exact fun _ _ => ⟨List.length_pos_iff.2 J8, Nat.le_refl _⟩
 | later hm _ ih =>
  intro hl Tn
  obtain ⟨h1, rfl, p, rfl, h2, h3⟩ := iP hl Tn hm
  have := ih (eP h1) Tn.right
  rw [List.length_append]
  omega
end Go.Proofs.Ytdmnknhlibaaoaa.Z
namespace Go.Proofs.Ytdmnknhlibaaoaa.Z
open Go.RowKit Go.Proofs.YtdmnknhlibaaoaaW.PrintWords Go.Proofs.YtdmnknhlibaaoaaW.PrintLast Go.Proofs.Ytdmnknhlibaaoaa.M
set_option linter.unusedVariables false
theorem ao0 {n : Int} (h0 : 0 ≤ n) (h1 : n ≤ 268435455) : o_.f n = some (num n) := by
 unfold o_.f
 rw [if_pos h0, if_pos h1]
 rfl
theorem cq2 (n : Int) : WM.f n = some (decide (0 ≤ n ∧ n ≤ 268435455)) := by
 unfold WM.f
 by_cases h : n ≥ 0
 ·rw [if_pos h]
  congr 1
  rw [Bool.eq_iff_iff, decide_eq_true_eq, decide_eq_true_eq]
  omega
 ·rw [if_neg h]
  congr 1
  rw [Bool.eq_iff_iff, decide_eq_true_eq]
  constructor
  ·intro h; cases h
  ·omega
def dH (s : ByteArray) (r : List Int) (j : Nat) (n : Int) : Int × Int × Int :=
 match AB j n r with
 | .error e => (0, 0, e)
 | .ok (m, r') => (m, s.size - r'.length, 0)
theorem af6 (s : ByteArray) (a : Int) (h0 : 0 ≤ a) (hs : s.size ≤ 140737488351232) : ∀ (j : Nat) (n : Int) (k : Nat), j ≤ 4 → j < k → 0 ≤ n → (n + 1) * 128 ^ j ≤ 268435456 → a + (4 - j) ≤ s.size →
 O7.l0 k s a n (4 - j) = some (dH s ((bytesOf s).drop (a + (4 - j)).toNat) j n)
 | 0, n, k, _, X, _, _, _ => by
  obtain ⟨k, rfl⟩ : ∃ m, k = m + 1 := ⟨k - 1, by omega⟩
  simp only [O7.l0]
  rw [if_neg (by omega)]
  rfl
 | j + 1, n, k, hj, X, hn, G, hp => by
  obtain ⟨k, rfl⟩ : ∃ m, k = m + 1 := ⟨k - 1, by omega⟩
  have e1 : wrap64 (a + (4 - ((j + 1 : Nat) : Int))) = a + (4 - ((j + 1 : Nat) : Int)) := U3 (by omega) (by omega)
  simp only [O7.l0]
  rw [if_pos (by omega), e1]
  have KW : (1 : Int) ≤ 128 ^ j := by
   have : (0 : Int) < 128 ^ j := Int.pow_pos (by decide)
   omega
  have C5 : n + 1 ≤ 268435456 ∧ (n + 1) * 128 * 128 ^ j ≤ 268435456 := by
   rw [Int.pow_succ, Int.mul_comm (128 ^ j) 128, ← Int.mul_assoc] at G
   refine ⟨?_, G⟩
   have := Int.mul_le_mul_of_nonneg_left KW (show 0 ≤ (n + 1) * 128 by omega)
   omega
  by_cases c1 : a + (4 - ((j + 1 : Nat) : Int)) ≥ (s.size : Int)
  ·rw [if_pos c1]
   unfold dH
   rw [af2 s _ (by omega), ai3]
  ·have hr := aD s (a + (4 - ((j + 1 : Nat) : Int)))
   have e2 : wrap64 (bt s (a + (4 - ((j + 1 : Nat) : Int)))) = bt s (a + (4 - ((j + 1 : Nat) : Int))) := U3 (by omega) (by omega)
   have e3 : wrap64 (n * 128) = n * 128 := U3 (by omega) (by omega)
   rw [if_neg c1, if_pos (by omega), if_pos (by omega), e2, e3]
   unfold dH
   rw [Nl s _ (by omega) (by omega)]
   generalize hc : bt s (a + (4 - ((j + 1 : Nat) : Int))) = c at *
   by_cases c2 : c < 128
   ·rw [if_pos c2, nZ c2]
    have e4 : Int.tmod c 128 = c := by rw [Int.tmod_eq_emod_of_nonneg hr.1]; omega
    rw [e4, U3 (by omega) (by omega), U3 (by omega) (by omega)]
    have hl := ap0 s (a + (4 - ((j + 1 : Nat) : Int)) + 1) (by omega) (by omega)
    dsimp only
    rw [hl]
    congr 2
    congr 1
    omega
   ·rw [if_neg c2, NY c2]
    have e4 : Int.tmod c 128 = c - 128 := by rw [Int.tmod_eq_emod_of_nonneg hr.1]; omega
    rw [e4, U3 (by omega) (by omega), U3 (by omega) (by omega)]
    have Df : (n * 128 + (c - 128) + 1) * 128 ^ j ≤ 268435456 := by
     have := Int.mul_le_mul_of_nonneg_right (show n * 128 + (c - 128) + 1 ≤ (n + 1) * 128 by omega) (show (0 : Int) ≤ 128 ^ j by omega)
     omega
    have ih := af6 s a h0 hs j (n * 128 + (c - 128)) k (by omega) (by omega) (by omega) Df (by omega)
    have e5 : (4 - ((j + 1 : Nat) : Int)) + 1 = 4 - (j : Int) := by omega
    have e6 : a + (4 - ((j + 1 : Nat) : Int)) + 1 = a + (4 - (j : Int)) := by omega
    rw [e5, ih, e6]
    rfl
theorem cu7 (s : ByteArray) (a : Int) (k : Nat) (X : 7 ≤ k) (h0 : 0 ≤ a) (h1 : a ≤ s.size) (hs : s.size ≤ 140737488351232) :
 O7.f k s a = some (dH s ((bytesOf s).drop a.toNat) 4 0) := by
 unfold O7.f
 rw [if_neg (by omega)]
 obtain ⟨k, rfl⟩ : ∃ m, k = m + 1 := ⟨k - 1, by omega⟩
 simp only [O7.j0]
 rw [if_neg (by rw [decide_eq_true_eq]; omega)]
 have h := af6 s a h0 hs 4 0 k (by omega) (by omega) (by omega) (by decide) (by omega)
 have e : (4 : Int) - ((4 : Nat) : Int) = 0 := by omega
 rw [e, Int.add_zero] at h
 exact h
theorem cs7 (a b c : Int) : YC.f a b c = some (decide (b ≤ a ∧ a ≤ c)) := by
 unfold YC.f
 by_cases h : a ≥ b
 ·rw [if_pos h]
  congr 1
  rw [Bool.eq_iff_iff, decide_eq_true_eq, decide_eq_true_eq]
  omega
 ·rw [if_neg h]
  congr 1
  rw [Bool.eq_iff_iff, decide_eq_true_eq]
  constructor
  ·intro h; cases h
  ·omega
theorem Ll (a : Int) : JC.f a = some (decide (a = 12 ∨ a = 13)) := by
 unfold JC.f
 by_cases h : a = 12
 ·rw [if_pos h]; simp [h]
 ·rw [if_neg h]
  congr 1
  rw [Bool.eq_iff_iff, decide_eq_true_eq, beq_iff_eq]
  omega
theorem at5 {α : Type} {p : Prop} [Decidable p] {a b c : α} (h1 : p → a = c) (h2 : ¬ p → b = c) : (if p then a else b) = c := by
 by_cases h : p
 ·rw [if_pos h]; exact h1 h
 ·rw [if_neg h]; exact h2 h
set_option maxHeartbeats 1000000 in
theorem am3 (m : J1) (k : Nat) (X : 6 ≤ k) : K3.f k m.f0 m.f1 m.f2 m.f3 m.f4 m.f5 = some (decide (iC m)) := by
 obtain ⟨f0, f1, f2, f3, f4, f5⟩ := m
 obtain ⟨k, rfl⟩ : ∃ q, k = q + 6 := ⟨k - 6, by omega⟩
 have hd := toList_nil f5
 generalize hD : decide (iC ⟨f0, f1, f2, f3, f4, f5⟩) = D
 have hR : D = true ↔ (0 ≤ f0 ∧ f0 ≤ 268435455 ∧ f5.size ≤ 100000 ∧ ((8 ≤ f1 ∧ f1 ≤ 14 ∧ 0 ≤ f2 ∧ f2 ≤ 15 ∧ 0 ≤ f3 ∧ f3 ≤ 127 ∧ 0 ≤ f4 ∧ f4 ≤ 127 ∧ (f1 = 12 ∨ f1 = 13 → f4 = 0) ∧ f5.size = 0) ∨
  (f1 = 15 ∧ f2 = 0 ∧ f4 = 0 ∧ (f3 = 240 ∨ f3 = 247)) ∨ (f1 = 16 ∧ f2 = 0 ∧ f4 = 0 ∧ 0 ≤ f3 ∧ f3 ≤ 127))) := by
   rw [← hD, decide_eq_true_eq]; rfl
 clear hD
 simp only [K3.f, K3.j0, K3.j1, K3.j2, K3.j3, K3.j4, cq2, cs7, Option.bind_some, decide_eq_true_eq, beq_iff_eq, hd, Bool.false_eq_true, if_false, if_true]
 repeat' (refine at5 (fun _ => ?_) (fun _ => ?_))
 all_goals
  refine congrArg some ?_
  rw [Bool.eq_iff_iff, hR]
  simp only [decide_eq_true_eq, beq_iff_eq, Bool.false_eq_true, false_iff, true_iff]
  omega
end Go.Proofs.Ytdmnknhlibaaoaa.Z
namespace Go.Proofs.Ytdmnknhlibaaoaa.Z
open Go.RowKit Go.Proofs.YtdmnknhlibaaoaaW.PrintWords Go.Proofs.YtdmnknhlibaaoaaW.PrintLast Go.Proofs.Ytdmnknhlibaaoaa.M
set_option linter.unusedVariables false
def i8 (s : ByteArray) (r : List Int) : Prop := ∃ p, bytesOf s = p ++ r
def pos (s : ByteArray) (r : List Int) : Int := s.size - r.length
theorem i8.all (s : ByteArray) : i8 s (bytesOf s) := ⟨[], rfl⟩
theorem i8.of {s : ByteArray} {p r : List Int} (h : i8 s (p ++ r)) : i8 s r := by
 obtain ⟨q, hq⟩ := h
 exact ⟨q ++ p, by rw [hq, List.append_assoc]⟩
theorem i8.tail {s : ByteArray} {c : Int} {r : List Int} (h : i8 s (c :: r)) : i8 s r := i8.of (p := [c]) h
theorem i8.len {s : ByteArray} {r : List Int} (h : i8 s r) : (r.length : Int) ≤ s.size := by
 obtain ⟨p, hp⟩ := h
 have := congrArg List.length hp
 rw [pH, List.length_append] at this
 omega
theorem i8.bytes {s : ByteArray} {r : List Int} (h : i8 s r) : Bytes r := by
 obtain ⟨p, hp⟩ := h
 have := ZO s
 rw [hp] at this
 exact this.right
theorem OY (s : ByteArray) : pos s (bytesOf s) = 0 := by unfold pos; rw [pH]; omega
theorem SH {s : ByteArray} {r : List Int} (h : i8 s r) : 0 ≤ pos s r := by have := h.len; unfold pos; omega
theorem pR (s : ByteArray) (r : List Int) : pos s r ≤ s.size := by unfold pos; omega
theorem tR {s : ByteArray} {r : List Int} (h : i8 s r) : (bytesOf s).drop (pos s r).toNat = r := by
 have hl := h.len
 obtain ⟨p, hp⟩ := h
 have := congrArg List.length hp
 rw [pH, List.length_append] at this
 have e : (pos s r).toNat = p.length := by unfold pos; omega
 rw [e, hp, List.drop_left]
theorem kP {s : ByteArray} {c : Int} {r : List Int} : pos s r = pos s (c :: r) + 1 := by unfold pos; rw [List.length_cons]; omega
theorem wR {s : ByteArray} {c : Int} {r : List Int} : pos s (c :: r) < s.size := by unfold pos; rw [List.length_cons]; omega
theorem uR (s : ByteArray) : pos s [] = s.size := by unfold pos; simp
theorem yV {s : ByteArray} {c : Int} {r : List Int} (h : i8 s (c :: r)) : bt s (pos s (c :: r)) = c := by
 have h1 := Nl s (pos s (c :: r)) (SH h) wR
 rw [tR h] at h1
 injection h1 with h1 _
 exact h1.symm
theorem rZ {i : Nat} {n m : Int} {s : ByteArray} {r r' : List Int} (h : i8 s r) (hv : AB i n r = .ok (m, r')) : i8 s r' := by
 obtain ⟨p, rfl, _⟩ := Wm h.bytes hv
 exact h.of
theorem aj0 {bs r' : List Int} {s : ByteArray} {r : List Int} (h : i8 s r) (hv : xD r = .ok (bs, r')) : i8 s r' := by
 obtain ⟨_, _, p, rfl, _⟩ := Il h.bytes hv
 exact h.of.of
theorem mR {a : Int} {r' : List Int} {s : ByteArray} {r : List Int} (h : i8 s r) (hv : low r = .ok (a, r')) : i8 s r' := by
 obtain ⟨rfl, _⟩ := sP hv
 exact h.tail
section
variable {s : ByteArray} {r : List Int} {last : Int} {k : Nat}
theorem uL (at_ e : Int) : S9.f s at_ last 0 e = some (s, at_, last, e) := by unfold S9.f; rw [if_pos rfl]
theorem af3 (X : 7 ≤ k) (hs : s.size ≤ 140737488351232) (h : i8 s r) : aA.f k s (pos s r) last 0 = some (match AB 4 0 r with
 | .error e => (0, s, pos s r, last, e)
 | .ok (n, r') => (n, s, pos s r', last, 0)) := by
 unfold aA.f
 rw [if_pos rfl, cu7 s _ k X (SH h) (pR s r) hs, tR h]
 unfold dH
 cases hv : AB 4 0 r with
 | error e =>
  rw [Option.bind_some]
  dsimp only
  rcases fP hv with rfl | rfl
  ·rw [if_neg (by decide), uL]; rfl
  ·rw [if_neg (by decide), uL]; rfl
 | ok x =>
  obtain ⟨n, r'⟩ := x
  rw [Option.bind_some]
  dsimp only
  rw [if_pos rfl]
  rfl
theorem ct1 {e at_ : Int} (he : e ≠ 0) : aA.f k s at_ last e = some (0, s, at_, last, e) := by
 unfold aA.f
 rw [if_neg he]
theorem Yk (hs : s.size ≤ 140737488351232) (h : i8 s r) : bE.f s (pos s r) last 0 = some (match low r with
 | .error e => (0, s, pos s r, last, e)
 | .ok (a, r') => (a, s, pos s r', last, 0)) := by
 unfold bE.f
 rw [if_pos rfl]
 cases r with
 | nil => rw [uR, if_pos (by omega), uL]; rfl
 | cons c r =>
  have hp := wR (s := s) (c := c) (r := r)
  have FG := SH h
  have hc := h.bytes.head
  rw [if_neg (by omega), if_pos FG, if_pos hp, yV h, U3 (by omega) (by omega)]
  by_cases c1 : c ≥ 128
  ·rw [if_pos c1, uL, low, if_pos c1]; rfl
  ·rw [if_neg c1, low, if_neg c1, U3 (by omega) (by omega), ← kP]
theorem JZ {e at_ : Int} (he : e ≠ 0) : bE.f s at_ last e = some (0, s, at_, last, e) := by
 unfold bE.f
 rw [if_neg he]
theorem ar4 (X : 7 ≤ k) (hs : s.size ≤ 140737488351232) (h : i8 s r) : match xD r with
 | .error e => ∃ a, zD.f k s (pos s r) last 0 = some (⟨#[]⟩, s, a, last, e)
 | .ok (bs, r') => zD.f k s (pos s r) last 0 = some (strOfNums bs, s, pos s r', last, 0) := by
 unfold zD.f
 rw [af3 X hs h]
 unfold xD
 cases hv : AB 4 0 r with
 | error e =>
  rw [Option.bind_some]
  dsimp only
  have he : e ≠ 0 := by rcases fP hv with rfl | rfl <;> decide
  rw [if_neg he]
  exact ⟨_, rfl⟩
 | ok x =>
  obtain ⟨n, r1⟩ := x
  obtain ⟨h0, h1, _⟩ := MZ h.bytes hv
  have h2 := rZ h hv
  have FG := SH h2
  have Ey := pR s r1
  have Wa : pos s r1 = s.size - r1.length := rfl
  rw [Option.bind_some]
  dsimp only
  rw [if_pos rfl]
  by_cases c1 : n > 100000
  ·rw [if_pos c1, if_pos c1, uL]
   exact ⟨_, rfl⟩
  ·rw [if_neg c1, if_neg c1, U3 (by omega) (by omega)]
   by_cases c2 : n > r1.length
   ·rw [if_pos c2, if_pos (by omega), uL]
    exact ⟨_, rfl⟩
   ·rw [if_neg c2, if_neg (by omega), if_pos (by omega), if_pos (by omega), if_pos (by omega)]
    dsimp only
    have e1 : s.extract (pos s r1).toNat (pos s r1 + n).toNat = strOfNums (r1.take n.toNat) := by
     apply at3
     rw [Uk, tR h2, lN (h2.bytes.take _)]
     congr 1
     omega
    have e2 : pos s r1 + n = pos s (r1.drop n.toNat) := by
     unfold pos
     rw [List.length_drop]
     omega
    rw [e1, e2]
theorem Jn {e at_ : Int} (he : e ≠ 0) : zD.f k s at_ last e = some (⟨#[]⟩, s, at_, last, e) := by
 unfold zD.f
 rw [ct1 he, Option.bind_some]
 dsimp only
 rw [if_neg he]
theorem cp6 {e at_ : Int} (he : e ≠ 0) : PE.f s at_ last e = some (0, s, at_, last, e) := by
 unfold PE.f
 rw [if_neg he]
theorem co1 : PE.f s (pos s []) last 0 = some (0, s, pos s [], last, 152) := by
 unfold PE.f
 rw [if_pos rfl, uR, if_pos (by omega), uL]; rfl
theorem cv5 {c : Int} {r1 : List Int} (hs : s.size ≤ 140737488351232) (h : i8 s (c :: r1)) (hc : c < 128) :
 PE.f s (pos s (c :: r1)) last 0 = if last = 0 then some (last, s, pos s (c :: r1), last, 151) else some (last, s, pos s (c :: r1), last, 0) := by
 have hp := wR (s := s) (c := c) (r := r1)
 have FG := SH h
 have hcb := h.bytes.head
 unfold PE.f
 rw [if_pos rfl, if_neg (by omega), if_pos FG, if_pos hp, yV h, U3 (by omega) (by omega), if_pos hc, uL]
 rfl
theorem cn1 {c : Int} {r1 : List Int} (hs : s.size ≤ 140737488351232) (h : i8 s (c :: r1)) (hc : ¬ c < 128) :
 PE.f s (pos s (c :: r1)) last 0 = some (c, s, pos s r1, last, if c > 240 ∧ c ≠ 247 ∧ c ≠ 255 then 151 else 0) := by
 have hp := wR (s := s) (c := c) (r := r1)
 have FG := SH h
 have hcb := h.bytes.head
 unfold PE.f
 rw [if_pos rfl, if_neg (by omega), if_pos FG, if_pos hp, yV h, U3 (by omega) (by omega), if_neg hc, uL, U3 (by omega) (by omega), ← kP]
 by_cases c1 : c > 240
 ·rw [if_pos c1]
  by_cases c2 : c = 247
  ·rw [if_pos c2, if_neg (by omega)]
  ·rw [if_neg c2]
   by_cases c3 : c = 255
   ·rw [if_pos c3, if_neg (by omega)]
   ·rw [if_neg c3, if_pos ⟨c1, c2, c3⟩, Option.bind_some]
    dsimp only
    rw [U3 (by omega) (by omega), ← kP]
 ·rw [if_neg c1, if_neg (by omega)]
def rest (k : Nat) (d c : Int) (s : ByteArray) (a last e : Int) : Option (Int × Int × Int × Int × Int × ByteArray × ByteArray × Int × Int × Int) :=
 if c = 255 then ((bE.f s a 0 e).bind fun mS => ((zD.f k mS.2.1 mS.2.2.1 mS.2.2.2.1 mS.2.2.2.2).bind fun ER => (some (d, 16, 0, mS.1, 0, ER.1, ER.2.1, ER.2.2.1, ER.2.2.2.1, ER.2.2.2.2))))
 else (if c ≥ 240 then ((zD.f k s a 0 e).bind fun WS => (some (d, 15, 0, c, 0, WS.1, WS.2.1, WS.2.2.1, WS.2.2.2.1, WS.2.2.2.2)))
 else ((bE.f s a c e).bind fun yJ => ((JC.f (wrap64 (Int.tdiv c 16))).bind fun ce2 => (if ce2 = true then (some (d, wrap64 (Int.tdiv c 16), Int.tmod c 16, yJ.1, 0, (⟨#[]⟩ : ByteArray), yJ.2.1, yJ.2.2.1, yJ.2.2.2.1, yJ.2.2.2.2)) else ((bE.f yJ.2.1 yJ.2.2.1 yJ.2.2.2.1 yJ.2.2.2.2).bind fun oT => (some (d, wrap64 (Int.tdiv c 16), Int.tmod c 16, yJ.1, oT.1, (⟨#[]⟩ : ByteArray), oT.2.1, oT.2.2.1, oT.2.2.2.1, oT.2.2.2.2)))))))
theorem cu4 (a last e : Int) : mH.f k s a last e = (aA.f k s a last e).bind fun x => (PE.f x.2.1 x.2.2.1 x.2.2.2.1 x.2.2.2.2).bind fun y => rest k x.1 y.1 y.2.1 y.2.2.1 y.2.2.2.1 y.2.2.2.2 := rfl
theorem yZ {d c a e : Int} (he : e ≠ 0) : ∃ t, rest k d c s a last e = some t ∧ t.2.2.2.2.2.2.2.2.2 = e := by
 unfold rest
 rw [JZ he, JZ he, Jn he, Ll]
 simp only [Option.bind_some]
 rw [Jn he, JZ he]
 simp only [Option.bind_some]
 by_cases c1 : c = 255
 ·rw [if_pos c1]; exact ⟨_, rfl, rfl⟩
 ·rw [if_neg c1]
  by_cases c2 : c ≥ 240
  ·rw [if_pos c2]; exact ⟨_, rfl, rfl⟩
  ·rw [if_neg c2]
   split
   ·exact ⟨_, rfl, rfl⟩
   ·exact ⟨_, rfl, rfl⟩
theorem lR {e : Int} (h : low r = .error e) : e = 151 ∨ e = 152 := by
 cases r with
 | nil => cases h; exact .inr rfl
 | cons c r =>
  by_cases c1 : c ≥ 128
  ·rw [low, if_pos c1] at h; cases h; exact .inl rfl
  ·rw [low, if_neg c1] at h; cases h
theorem cy6 {e : Int} (h : xD r = .error e) : e = 150 ∨ e = 151 ∨ e = 152 := by
 unfold xD at h
 cases hv : AB 4 0 r with
 | error e' =>
  rw [hv] at h; injection h with h; subst h
  rcases fP hv with rfl | rfl
  ·exact .inl rfl
  ·exact .inr (.inr rfl)
 | ok x =>
  obtain ⟨n, r1⟩ := x
  rw [hv] at h
  dsimp only at h
  by_cases c1 : n > 100000
  ·rw [if_pos c1] at h; cases h; exact .inr (.inl rfl)
  ·rw [if_neg c1] at h
   by_cases c2 : n > r1.length
   ·rw [if_pos c2] at h; cases h; exact .inr (.inr rfl)
   ·rw [if_neg c2] at h; cases h
def Told (x : Except Int (J1 × Int × List Int)) (s : ByteArray) (o : Option (Int × Int × Int × Int × Int × ByteArray × ByteArray × Int × Int × Int)) : Prop :=
 match x with
 | .error e => e ≠ 0 ∧ ∃ t, o = some t ∧ t.2.2.2.2.2.2.2.2.2 = e
 | .ok (m, l', r') => i8 s r' ∧ o = some (m.f0, m.f1, m.f2, m.f3, m.f4, m.f5, s, pos s r', l', 0)
theorem an9 {d c : Int} (X : 7 ≤ k) (hs : s.size ≤ 140737488351232) (h : i8 s r) (h1 : 128 ≤ c) (h2 : c ≤ 255) : Told (body d c r) s (rest k d c s (pos s r) last 0) := by
 unfold rest
 by_cases c1 : c = 255
 ·subst c1
  rw [if_pos rfl, Dn, Yk hs h, Option.bind_some]
  cases hl : low r with
  | error e =>
   dsimp only
   have he : e ≠ 0 := by rcases lR hl with rfl | rfl <;> decide
   rw [Jn he]
   exact ⟨he, _, rfl, rfl⟩
  | ok x =>
   obtain ⟨a, r1⟩ := x
   dsimp only
   have G := ar4 (k := k) (last := 0) X hs (mR h hl)
   cases hd : xD r1 with
   | error e =>
    rw [hd] at G
    obtain ⟨q, G⟩ := G
    rw [G]
    refine ⟨TY, _, rfl, rfl⟩
   | ok y =>
    obtain ⟨bs, r2⟩ := y
    rw [hd] at G
    dsimp only at G
    rw [G]
    exact ⟨aj0 (mR h hl) hd, rfl⟩
 ·rw [if_neg c1]
  by_cases c2 : c ≥ 240
  ·rw [if_pos c2, Vk c1 c2]
   have G := ar4 (k := k) (last := 0) X hs h
   cases hd : xD r with
   | error e =>
    rw [hd] at G
    obtain ⟨q, G⟩ := G
    rw [G]
    refine ⟨TY, _, rfl, rfl⟩
   | ok y =>
    obtain ⟨bs, r2⟩ := y
    rw [hd] at G
    dsimp only at G
    rw [G]
    exact ⟨aj0 h hd, rfl⟩
  ·rw [if_neg c2, Mm (by omega), Yk hs h, Option.bind_some, Ll, Option.bind_some]
   have e1 : wrap64 (Int.tdiv c 16) = c / 16 := by rw [Int.tdiv_eq_ediv_of_nonneg (by omega)]; exact U3 (by omega) (by omega)
   have e2 : Int.tmod c 16 = c % 16 := Int.tmod_eq_emod_of_nonneg (by omega)
   rw [e1, e2]
   cases hl : low r with
   | error e =>
    dsimp only
    have he : e ≠ 0 := by rcases lR hl with rfl | rfl <;> decide
    rw [JZ he]
    refine ⟨he, ?_⟩
    split
    ·exact ⟨_, rfl, rfl⟩
    ·exact ⟨_, rfl, rfl⟩
   | ok x =>
    obtain ⟨a, r1⟩ := x
    dsimp only
    have h3 := mR h hl
    by_cases c3 : c / 16 = 12 ∨ c / 16 = 13
    ·rw [if_pos c3, if_pos (decide_eq_true c3)]
     exact ⟨h3, rfl⟩
    ·rw [if_neg c3, if_neg (by rw [decide_eq_true_eq]; exact c3), Yk hs h3, Option.bind_some]
     cases RC : low r1 with
     | error e =>
      exact ⟨by rcases lR RC with rfl | rfl <;> decide, _, rfl, rfl⟩
     | ok y =>
      obtain ⟨b, r2⟩ := y
      exact ⟨mR h3 RC, rfl⟩
theorem Tk (X : 7 ≤ k) (hs : s.size ≤ 140737488351232) (h : i8 s r) (hl : RH last) : Told (msg last r) s (mH.f k s (pos s r) last 0) := by
 rw [cu4, af3 X hs h, Option.bind_some]
 cases hv : AB 4 0 r with
 | error e =>
  have he : e ≠ 0 := by rcases fP hv with rfl | rfl <;> decide
  unfold msg
  rw [hv]
  dsimp only
  rw [cp6 he, Option.bind_some]
  exact ⟨he, yZ he⟩
 | ok x =>
  obtain ⟨d, r1⟩ := x
  have h2 := rZ h hv
  cases r1 with
  | nil =>
   unfold msg
   rw [hv]
   dsimp only
   rw [co1, Option.bind_some]
   exact ⟨by decide, yZ (show (152 : Int) ≠ 0 by decide)⟩
  | cons c r1 =>
   rw [In hv]
   dsimp only
   by_cases c1 : c < 128
   ·rw [if_pos c1, cv5 hs h2 c1]
    by_cases c2 : last = 0
    ·rw [if_pos c2, if_pos c2, Option.bind_some]
     exact ⟨by decide, yZ (show (151 : Int) ≠ 0 by decide)⟩
    ·rw [if_neg c2, if_neg c2, Option.bind_some]
     have RC : 128 ≤ last ∧ last < 240 := by rcases hl with hl | hl <;> omega
     exact an9 X hs h2 RC.1 (by omega)
   ·have hc := h2.bytes.head
    rw [if_neg c1, cn1 hs h2 c1, Option.bind_some]
    by_cases c2 : c > 240 ∧ c ≠ 247 ∧ c ≠ 255
    ·rw [if_pos c2]
     dsimp only
     rw [if_pos c2]
     exact ⟨by decide, yZ (by decide)⟩
    ·rw [if_neg c2]
     dsimp only
     rw [if_neg c2]
     exact an9 X hs h2.tail (by omega) hc.2
end
theorem ar8 {s : ByteArray} (hs : s.size ≤ 1000000000) : ∀ {l : Int} {r : List Int} {ms : List J1}, eJ l r ms → RH l → i8 s r → ∀ (out : List J1) (k : Nat), out.length + r.length ≤ 1000000000 → ms.length + 8 < k →
 M_.l0 k s out s (pos s r) l = some (out ++ ms, 0, 0)
 | l, _, _, .nil _, hl, h, out, k, _, X => by
  obtain ⟨k, rfl⟩ : ∃ m, k = m + 1 := ⟨k - 1, by omega⟩
  simp only [M_.l0]
  rw [uR, if_neg (by omega), List.append_nil]
 | l, r, _, .cons (m := m) (ms := ms) (r' := r') (l' := l') hm hd, hl, h, out, k, ho, X => by
  rw [List.length_cons] at X
  obtain ⟨k, rfl⟩ : ∃ m, k = m + 1 := ⟨k - 1, by omega⟩
  have ht := Tk (k := k) (by omega) (by omega) h hl
  rw [hm] at ht
  obtain ⟨h1, h2⟩ := ht
  obtain ⟨k1, rfl, p, hp, k3, k4⟩ := iP hl h.bytes hm
  have hlen : r.length = p.length + r'.length := by rw [hp, List.length_append]
  have l4 : pos s r < s.size := by unfold pos; omega
  simp only [M_.l0]
  rw [if_pos l4, h2, Option.bind_some]
  dsimp only
  rw [if_pos rfl, if_pos (by omega)]
  have ih := ar8 hs hd (eP k1) h1 (out ++ [m]) k XQ (by omega)
  rw [List.append_assoc] at ih
  exact ih
theorem cl7 {s : ByteArray} (hs : s.size ≤ 1000000000) {l e : Int} {r : List Int} {n : Nat} (hd : WJ l r e n) : RH l → i8 s r → ∀ (out : List J1), out.length + r.length ≤ 1000000000 →
 ∃ K, ∀ k, K ≤ k → M_.l0 k s out s (pos s r) l = some ([], (s.size : Int) - (n : Int), e) := by
 induction hd with
 | @here l e r J8 hm =>
  intro hl h out _
  refine ⟨9, fun k X => ?_⟩
  obtain ⟨k, rfl⟩ : ∃ m, k = m + 1 := ⟨k - 1, by omega⟩
  have ht := Tk (k := k) (by omega) (by omega) h hl
  rw [hm] at ht
  obtain ⟨he, t, h1, h2⟩ := ht
  have l4 : pos s r < s.size := by
   have := List.length_pos_iff.2 J8
   unfold pos; omega
  simp only [M_.l0]
  rw [if_pos l4, h1, Option.bind_some, h2, if_neg he]
  rfl
 | @later l l' e r r' m n hm _ ih =>
  intro hl h out ho
  obtain ⟨k1, rfl, p, hp, k3, k4⟩ := iP hl h.bytes hm
  have hlen : r.length = p.length + r'.length := by rw [hp, List.length_append]
  have Zf : i8 s r' := by rw [hp] at h; exact h.of
  obtain ⟨K, hK⟩ := ih (eP k1) Zf (out ++ [m]) XQ
  refine ⟨K + 9, fun k X => ?_⟩
  obtain ⟨k, rfl⟩ : ∃ m, k = m + 1 := ⟨k - 1, by omega⟩
  have ht := Tk (k := k) (by omega) (by omega) h hl
  rw [hm] at ht
  obtain ⟨h1, h2⟩ := ht
  have l4 : pos s r < s.size := by unfold pos; omega
  simp only [M_.l0]
  rw [if_pos l4, h2, Option.bind_some]
  dsimp only
  rw [if_pos rfl, if_pos (by omega)]
  exact hK k (by omega)
theorem cx4 {s : ByteArray} (hs : s.size ≤ 1000000000) {ms : List J1} (h : eJ 0 (bytesOf s) ms) : Ev (fun k => M_.f k s) (ms, 0, 0) := by
 refine ⟨ms.length + 9, fun k X => ?_⟩
 have h1 := ar8 hs h (.inl rfl) (i8.all s) [] k VY (by omega)
 rw [OY] at h1
 exact h1
theorem cm1 {s : ByteArray} (hs : s.size ≤ 1000000000) {e : Int} {n : Nat} (h : WJ 0 (bytesOf s) e n) : Ev (fun k => M_.f k s) ([], (s.size : Int) - (n : Int), e) := by
 obtain ⟨K, hK⟩ := cl7 hs h (.inl rfl) (i8.all s) [] VY
 refine ⟨K, fun k X => ?_⟩
 have h1 := hK k X
 rw [OY] at h1
 exact h1
end Go.Proofs.Ytdmnknhlibaaoaa.Z
namespace Go.Proofs.Ytdmnknhlibaaoaa.Z
open Go.RowKit Go.Proofs.YtdmnknhlibaaoaaW.PrintWords Go.Proofs.YtdmnknhlibaaoaaW.PrintLast Go.Proofs.Ytdmnknhlibaaoaa.M
set_option linter.unusedVariables false
def P9 : List J1 → Nat
 | [] => 0
 | m :: ms => m.f5.size + 10 + P9 ms
theorem cI (l : List J1) (i : Nat) (h : i < l.length) : l.drop i = U l (i : Int) :: l.drop (i + 1) := by
 rw [List.drop_eq_getElem_cons h]
 unfold U
 rw [Int.toNat_natCast, List.getD_eq_getElem?_getD, List.getElem?_eq_getElem h]
 rfl
theorem cr8 (k : Nat) (out : List Int) (last : Int) (l : List J1) (i : Nat) (hi : i < l.length) (X : 6 ≤ k) (hl : l.length ≤ 1000000000) (hr : iC (U l (i : Int))) (ho : out.length + (U l (i : Int)).f5.size + 10 ≤ 2000000000) :
 z5.l0 (k + 1) out last l (l.length : Int) (i : Int) = z5.l0 k (out ++ mF last (U l (i : Int))) (cE (U l (i : Int))) l (l.length : Int) ((i + 1 : Nat) : Int) := by
 simp only [z5.l0]
 have e1 : wrap64 ((i : Int) + 1) = ((i + 1 : Nat) : Int) := by rw [U3 (by omega) (by omega)]; omega
 rw [if_pos (by omega), if_pos (by omega), if_pos (by omega), am3 _ k X, decide_eq_true hr, Option.bind_some, if_pos rfl, e1]
 generalize hm : U l (i : Int) = m at *
 obtain ⟨f0, f1, f2, f3, f4, f5⟩ := m
 obtain ⟨h0, h1, h2, h⟩ := hr
 dsimp only at h0 h1 h2 h ho ⊢
 have hn := (dN f0).2
 have AN := (dN f5.size).2
 have WV := pH f5
 rw [ao0 h0 h1, Option.bind_some, ao0 (by omega) (by omega), if_pos (by omega), Option.bind_some]
 unfold mF cE
 dsimp only
 rcases h with ⟨k1, k2, k3, k4, k5, k6, k7, k8, k9, k10⟩ | ⟨rfl, rfl, rfl, kk⟩ | ⟨rfl, rfl, rfl, k1, k2⟩
 ·have ew : wrap64 (wrap64 (16 * f1) + f2) = 16 * f1 + f2 := by rw [U3 (x := 16 * f1) (by omega) (by omega)]; exact U3 (by omega) (by omega)
  have e3 : f3 % 256 = f3 := by omega
  have e4 : f4 % 256 = f4 := by omega
  have e5 : (16 * f1 + f2) % 256 = 16 * f1 + f2 := by omega
  rw [if_neg (show ¬ f1 = 16 by omega), if_neg (show ¬ f1 = 15 by omega), if_neg (show ¬ f1 = 16 by omega), if_neg (show ¬ f1 = 15 by omega), if_neg (show ¬ f1 = 16 by omega), if_neg (show ¬ f1 = 15 by omega), ew, e3, e4, e5, Ll]
  simp only [Option.bind_some, decide_eq_true_eq, List.length_append, List.length_cons, List.length_nil]
  by_cases c1 : 16 * f1 + f2 = last
  ·rw [if_pos c1, if_pos c1, if_pos (by omega)]
   by_cases c2 : f1 = 12 ∨ f1 = 13
   ·rw [if_pos c2, if_pos c2]; simp only [List.append_assoc, List.nil_append]
   ·rw [if_neg c2, if_neg c2, if_pos (by omega)]; simp only [List.append_assoc, List.nil_append, List.cons_append]
  ·rw [if_neg c1, if_neg c1, if_pos (by omega), if_pos (by omega)]
   by_cases c2 : f1 = 12 ∨ f1 = 13
   ·rw [if_pos c2, if_pos c2]; simp only [List.append_assoc, List.nil_append, List.cons_append]
   ·rw [if_neg c2, if_neg c2, if_pos (by omega)]; simp only [List.append_assoc, List.nil_append, List.cons_append]
 ·have e3 : f3 % 256 = f3 := by omega
  rw [if_neg (show ¬ (15 : Int) = 16 by decide), if_pos (show (15 : Int) = 15 from rfl), if_neg (show ¬ (15 : Int) = 16 by decide), if_pos (show (15 : Int) = 15 from rfl), if_neg (show ¬ (15 : Int) = 16 by decide), if_pos (show (15 : Int) = 15 from rfl), e3]
  simp only [Option.bind_some, List.length_append, List.length_cons, List.length_nil]
  rw [if_pos (by omega), if_pos (by omega), if_pos (by omega)]
  simp only [List.append_assoc, List.nil_append, List.cons_append]
 ·have e3 : f3 % 256 = f3 := by omega
  rw [if_pos (show (16 : Int) = 16 from rfl), if_pos (show (16 : Int) = 16 from rfl), if_pos (show (16 : Int) = 16 from rfl), e3]
  simp only [Option.bind_some, List.length_append, List.length_cons, List.length_nil]
  rw [if_pos (by omega), if_pos (by omega), if_pos (by omega), if_pos (by omega)]
  simp only [List.append_assoc, List.nil_append, List.cons_append]
theorem Gn (l : Int) (m : J1) : (mF l m).length ≤ m.f5.size + 10 := by
 have a1 := (dN m.f0).2
 have a2 := (dN m.f5.size).2
 unfold mF
 split
 ·simp only [List.length_append, List.length_cons, pH]; omega
 ·split
  ·simp only [List.length_append, List.length_cons, pH]; omega
  ·simp only [List.length_append, List.length_cons]
   split <;> split <;> simp <;> omega
theorem al5 (l : List J1) (hl : l.length ≤ 1000000000) : ∀ (j i : Nat) (out : List Int) (last : Int) (k : Nat), i + j = l.length → zA (l.drop i) → out.length + P9 (l.drop i) ≤ 1000000000 → j + 7 < k →
 z5.l0 k out last l (l.length : Int) (i : Int) = some (strOfNums (out ++ enc last (l.drop i)), 0)
 | 0, i, out, last, k, hj, _, _, X => by
  obtain ⟨k, rfl⟩ : ∃ m, k = m + 1 := ⟨k - 1, by omega⟩
  simp only [z5.l0]
  rw [if_neg (by omega), List.drop_of_length_le (by omega), ah1, List.append_nil]
 | j + 1, i, out, last, k, hj, hr, ho, X => by
  obtain ⟨k, rfl⟩ : ∃ m, k = m + 1 := ⟨k - 1, by omega⟩
  have hi : i < l.length := by omega
  rw [cI l i hi] at hr ho ⊢
  simp only [P9] at ho
  rw [cr8 k out last l i hi (by omega) hl hr.head (by omega)]
  have YF := Gn last (U l (i : Int))
  rw [al5 l hl j (i + 1) _ _ k (by omega) hr.tail vP (by omega), vV, List.append_assoc]
theorem ag4 {l : List J1} (h : P9 l ≤ 1000000000) : l.length ≤ 1000000000 := by
 have : ∀ l : List J1, l.length ≤ P9 l := by
  intro l
  induction l with
  | nil => simp [P9]
  | cons m ms ih => simp only [P9, List.length_cons]; omega
 have := this l
 omega
theorem ct7 {l : List J1} (hr : zA l) (ht : P9 l ≤ 1000000000) : Ev (fun k => z5.f k l) (strOfNums (enc 0 l), 0) :=
 ⟨l.length + 8, fun k X => by
  have h := al5 l (ag4 ht) l.length 0 [] 0 k (by omega) (by simpa using hr) (by simpa using ht) (by omega)
  show z5.l0 k [] 0 l (l.length : Int) 0 = _
  simpa using h⟩
theorem cu5 {m : J1} (hm : iC m) {l : Int} : Bytes (mF l m) := by
 obtain ⟨f0, f1, f2, f3, f4, f5⟩ := m
 obtain ⟨h0, h1, h2, h⟩ := hm
 unfold mF
 dsimp only at h0 h1 h2 h ⊢
 have a := aq4 h0
 have b := aq4 (n := f5.size) (by omega)
 have c := ZO f5
 split
 ·exact a.append (Bytes.cons (by decide) (by decide) (Bytes.cons (by omega) (by omega) (b.append c)))
 ·split
  ·exact a.append (Bytes.cons (by omega) (by omega) (b.append c))
  ·refine a.append (Bytes.append ?_ (Bytes.cons (by omega) (by omega) ?_))
   ·split
    ·exact Bytes.nil
    ·exact Bytes.cons (by omega) (by omega) Bytes.nil
   ·split
    ·exact Bytes.nil
    ·exact Bytes.cons (by omega) (by omega) Bytes.nil
theorem Sm : ∀ {ms : List J1} {l : Int}, zA ms → Bytes (enc l ms)
 | [], _, _ => Bytes.nil
 | m :: ms, l, h => by
  rw [vV]
  exact (cu5 h.head).append (Sm h.tail)
theorem eZ : ∀ (ms : List J1) (l : Int), (enc l ms).length ≤ P9 ms
 | [], _ => Nat.le_refl _
 | m :: ms, l => by
  have h1 := Gn l m
  have h2 := eZ ms (cE m)
  rw [vV, List.length_append]
  simp only [P9]
  omega
end Go.Proofs.Ytdmnknhlibaaoaa.Z
namespace Go.Proofs.Ytdmnknhlibaaoaa.Z
open Go.RowKit Go.Proofs.YtdmnknhlibaaoaaW.PrintWords Go.Proofs.YtdmnknhlibaaoaaW.PrintLast Go.Proofs.Ytdmnknhlibaaoaa.M
set_option linter.unusedVariables false
theorem Ev.yes {α : Type} {c : Prop} [Decidable c] {a b : Nat → Option α} {r : α} (h : c) (k : Ev a r) : Ev (fun n => if c then a n else b n) r := by
 obtain ⟨K, hK⟩ := k
 exact ⟨K, fun n hn => by show (if c then a n else b n) = some r; rw [if_pos h]; exact hK n hn⟩
theorem Ev.no {α : Type} {c : Prop} [Decidable c] {a b : Nat → Option α} {r : α} (h : ¬ c) (k : Ev b r) : Ev (fun n => if c then a n else b n) r := by
 obtain ⟨K, hK⟩ := k
 exact ⟨K, fun n hn => by show (if c then a n else b n) = some r; rw [if_neg h]; exact hK n hn⟩
theorem Ev.eq {α : Type} {x : Option α} {r : α} (h : x = some r) : Ev (fun _ => x) r := ⟨0, fun _ _ => h⟩
theorem Ev.at {α : Type} {g : Nat → Option α} {r : α} (K : Nat) (h : ∀ k, K ≤ k → g k = some r) : Ev g r := ⟨K, h⟩
theorem Ev.ok {α : Type} {g : Nat → Option α} {r r' : α} (h : Ev g r) (e : r = r') : Ev g r' := e ▸ h
def IC (m : J1) : Bool := decide (m.f1 = 16) && (decide (m.f3 = 47) && decide (m.f5.size = 0))
theorem cy7 (m : J1) : XM.f m.f0 m.f1 m.f2 m.f3 m.f4 m.f5 = some (IC m) := by
 unfold XM.f IC
 by_cases h1 : m.f1 = 16
 ·rw [if_pos h1, decide_eq_true h1, Bool.true_and]
  by_cases h2 : m.f3 = 47
  ·rw [if_pos h2, decide_eq_true h2, Bool.true_and]
   congr 1
   rw [Bool.eq_iff_iff]
   simp only [beq_iff_eq, decide_eq_true_eq]
   exact toList_nil m.f5
  ·rw [if_neg h2, decide_eq_false h2, Bool.false_and]
 ·rw [if_neg h1, decide_eq_false h1, Bool.false_and]
def OE (p : J1 → Bool) : List J1 → Nat → Int
 | [], _ => -1
 | m :: r, i => if p m = true then (i : Int) else OE p r (i + 1)
theorem aj7 (l : List J1) (hl : l.length ≤ 1000000000) : ∀ (j i k : Nat), i + j = l.length → j < k → CA.l0 k l (l.length : Int) (i : Int) = some (OE IC (l.drop i) i)
 | 0, i, k, hj, X => by
  obtain ⟨k, rfl⟩ : ∃ m, k = m + 1 := ⟨k - 1, by omega⟩
  simp only [CA.l0]
  rw [if_neg (by omega), List.drop_eq_nil_of_le (by omega)]
  rfl
 | j + 1, i, k, hj, X => by
  obtain ⟨k, rfl⟩ : ∃ m, k = m + 1 := ⟨k - 1, by omega⟩
  simp only [CA.l0]
  rw [if_pos (by omega), if_pos (by omega), if_pos (by omega), cy7, Option.bind_some]
  have e1 : wrap64 ((i : Int) + 1) = ((i + 1 : Nat) : Int) := by rw [U3 (by omega) (by omega)]; omega
  rw [cI l i (by omega), OE, e1, aj7 l hl j (i + 1) k (by omega) (by omega)]
  split <;> rfl
theorem cu0 (l : List J1) (hl : l.length ≤ 1000000000) : Ev (fun k => CA.f k l) (OE IC l 0) :=
 ⟨l.length + 1, fun k X => aj7 l hl l.length 0 k (by omega) (by omega)⟩
def JE (m : J1) : Bool := !decide (iC m)
theorem cz1 (m : J1) (k : Nat) (X : 6 ≤ k) : nF.f k m.f0 m.f1 m.f2 m.f3 m.f4 m.f5 = some (JE m) := by
 unfold nF.f
 rw [am3 m k X]
 rfl
theorem af5 (l : List J1) (hl : l.length ≤ 1000000000) : ∀ (j i k : Nat), i + j = l.length → j + 6 < k → yA.l0 k l (l.length : Int) (i : Int) = some (OE JE (l.drop i) i)
 | 0, i, k, hj, X => by
  obtain ⟨k, rfl⟩ : ∃ m, k = m + 1 := ⟨k - 1, by omega⟩
  simp only [yA.l0]
  rw [if_neg (by omega), List.drop_eq_nil_of_le (by omega)]
  rfl
 | j + 1, i, k, hj, X => by
  obtain ⟨k, rfl⟩ : ∃ m, k = m + 1 := ⟨k - 1, by omega⟩
  simp only [yA.l0]
  rw [if_pos (by omega), if_pos (by omega), if_pos (by omega), cz1 _ k (by omega), Option.bind_some]
  have e1 : wrap64 ((i : Int) + 1) = ((i + 1 : Nat) : Int) := by rw [U3 (by omega) (by omega)]; omega
  rw [cI l i (by omega), OE, e1, af5 l hl j (i + 1) k (by omega) (by omega)]
  split <;> rfl
theorem ai7 {p : J1 → Bool} : ∀ {l : List J1} {i : Nat}, (∀ m ∈ l, p m = false) → OE p l i = -1
 | [], _, _ => rfl
 | m :: r, i, h => by
  rw [OE, if_neg (by rw [h m (by simp)]; decide)]
  exact ai7 (fun x hx => h x (by simp [hx]))
theorem am0 {p : J1 → Bool} : ∀ {l : List J1} {i : Nat}, (∃ m ∈ l, p m = true) → 0 ≤ OE p l i ∧ (i : Int) ≤ OE p l i ∧ OE p l i < i + l.length
 | [], _, h => by obtain ⟨m, hm, _⟩ := h; cases hm
 | m :: r, i, h => by
  rw [OE]
  by_cases c : p m = true
  ·rw [if_pos c, List.length_cons]; omega
  ·rw [if_neg c]
   obtain ⟨x, hx, hp⟩ := h
   rcases List.mem_cons.1 hx with rfl | hx
   ·exact absurd hp c
   ·have := am0 (p := p) (l := r) (i := i + 1) ⟨x, hx, hp⟩
    rw [List.length_cons]
    omega
theorem cs5 (l : List J1) (hl : l.length ≤ 1000000000) : Ev (fun k => lH.f k l) (l.any JE) := by
 have h : Ev (fun k => yA.f k l) (OE JE l 0) := ⟨l.length + 7, fun k X => af5 l hl l.length 0 k (by omega) (by omega)⟩
 refine Ev.ok (Ev.bind h (Ev.now _)) ?_
 by_cases c : ∃ m ∈ l, JE m = true
 ·have := (am0 (i := 0) c).1
  rw [decide_eq_true (by omega)]
  exact (List.any_eq_true.2 c).symm
 ·have h2 : ∀ m ∈ l, JE m = false := fun m hm => by
   cases hw : JE m
   ·rfl
   ·exact absurd ⟨m, hm, hw⟩ c
  rw [ai7 h2]
  rw [Bool.eq_false_iff.2 (fun hc => c (List.any_eq_true.1 hc))]
  rfl
theorem at6 (l : List J1) : l.any JE = true ↔ ¬ zA l := by
 rw [List.any_eq_true]
 unfold JE zA
 constructor
 ·rintro ⟨m, hm, h⟩ hr
  simp [hr m hm] at h
 ·intro h
  refine Classical.byContradiction fun hn => h fun m hm => Classical.byContradiction fun hc => hn ⟨m, hm, by simp [hc]⟩
def zB : List J1 → Bool
 | [] => false
 | [m] => IC m
 | m :: n :: r => !IC m && zB (n :: r)
theorem ap5 : ∀ (l : List J1) (i : Nat), l ≠ [] → (OE IC l i == (i : Int) + l.length - 1) = zB l
 | [], _, h => absurd rfl h
 | [m], i, _ => by
  rw [OE, zB]
  cases IC m
  ·simp [OE] <;> omega
  ·simp
 | m :: n :: r, i, _ => by
  rw [OE, zB]
  have ih := ap5 (n :: r) (i + 1) (by simp)
  cases IC m
  ·rw [if_neg (by decide), ← ih]
   simp only [List.length_cons, Bool.not_false, Bool.true_and]
   congr 1
   omega
  ·rw [if_pos rfl]
   simp only [List.length_cons, Bool.not_true, Bool.false_and]
   exact beq_eq_false_iff_ne.mpr (by omega)
theorem Ln (l : List J1) (hl : l.length ≤ 1000000000) : Ev (fun k => CD.f k l) (zB l) := by
 by_cases c : (l.length : Int) > 0
 ·refine Ev.yes c (Ev.ok (Ev.bind (cu0 l hl) (Ev.now _)) ?_)
  rw [U3 (by omega) (by omega), ← ap5 l 0 (by intro h; rw [h] at c; simp at c)]
  simp
 ·refine Ev.no c (Ev.ok (Ev.now _) ?_)
  have : l = [] := List.eq_nil_of_length_eq_zero (by omega)
  rw [this]
  rfl
theorem ai2 : ∀ {a : List J1} {e : J1}, IC e = true → (∀ m ∈ a, IC m = false) → zB (a ++ [e]) = true
 | [], e, h, _ => h
 | [m], e, h, k => by
  show (!IC m && IC e) = true
  rw [h, k m (by simp)]
  rfl
 | m :: n :: r, e, h, k => by
  show (!IC m && zB ((n :: r) ++ [e])) = true
  rw [ai2 h (fun x hx => k x (by simp [hx])), k m (by simp)]
  rfl
noncomputable def cF : List (List J1) → Int → Int × Int
 | [], _ => (0, 0)
 | l :: r, i => if l.any JE = true then (i, 151) else if zB l = true then cF r (i + 1) else (i, 160)
def iV (f d : Int) (n : Nat) : Bool := decide (f < 0) || decide (f > 1) || decide (d < 1) || decide (d > 32767) || decide (n < 1) || decide (n > 16) || (decide (n > 1) && decide (f = 0))
noncomputable def BG (f d : Int) (ts : List (List J1)) : Int × Int := if iV f d ts.length = true then (0, 160) else cF ts 0
theorem sL (l : List (List J1)) (i : Nat) (h : i < l.length) : l.drop i = L0 l (i : Int) :: l.drop (i + 1) := by
 rw [List.drop_eq_getElem_cons h]
 unfold L0
 rw [Int.toNat_natCast, List.getD_eq_getElem?_getD, List.getElem?_eq_getElem h]
 rfl
theorem aN (l : List (List J1)) (i : Nat) (h : i < l.length) : L0 l (i : Int) ∈ l := by
 unfold L0
 rw [Int.toNat_natCast, List.getD_eq_getElem?_getD, List.getElem?_eq_getElem h]
 exact List.getElem_mem h
def Small (ts : List (List J1)) : Prop := ts.length ≤ 1000000000 ∧ ∀ l ∈ ts, l.length ≤ 1000000000
theorem ah7 (ts : List (List J1)) (hs : Small ts) : ∀ (j i : Nat), i + j = ts.length → Ev (fun k => H4.l0 k ts (ts.length : Int) (i : Int)) (cF (ts.drop i) i)
 | 0, i, hj => by
  refine Ev.step (fun k => by rw [H4.l0]) ?_
  refine Ev.no (by omega) (Ev.ok (Ev.now _) ?_)
  rw [List.drop_eq_nil_of_le (by omega)]
  rfl
 | j + 1, i, hj => by
  refine Ev.step (fun k => by rw [H4.l0]) ?_
  refine Ev.yes (by omega) (Ev.yes (by omega) (Ev.yes (by omega) ?_))
  have hl : (L0 ts (i : Int)).length ≤ 1000000000 := hs.2 _ (aN ts i (by omega))
  refine Ev.bind (cs5 _ hl) ?_
  rw [sL ts i (by omega), cF]
  have e1 : wrap64 ((i : Int) + 1) = ((i + 1 : Nat) : Int) := by have := hs.1; rw [U3 (by omega) (by omega)]; omega
  by_cases c : (L0 ts (i : Int)).any JE = true
  ·rw [if_pos c]
   exact Ev.yes c (Ev.now _)
  ·rw [if_neg c]
   refine Ev.no c (Ev.bind (Ln _ hl) ?_)
   by_cases c2 : zB (L0 ts (i : Int)) = true
   ·rw [if_pos c2]
    refine Ev.yes c2 ?_
    rw [e1]
    have := ah7 ts hs j (i + 1) (by omega)
    rw [show (((i + 1 : Nat) : Int)) = (i : Int) + 1 by omega] at this ⊢
    exact this
   ·rw [if_neg c2]
    exact Ev.no c2 (Ev.now _)
theorem eN (f d : Int) (ts : List (List J1)) (hs : Small ts) (b : Bool) : Ev (fun k => H4.j0 k b f d ts) (if b = true then (0, 160) else cF ts 0) := by
 refine Ev.step (fun k => by rw [H4.j0]) ?_
 cases b
 ·exact Ev.no (by decide) (ah7 ts hs ts.length 0 (by omega))
 ·exact Ev.yes rfl (Ev.now _)
theorem al2 (f d : Int) (ts : List (List J1)) (hs : Small ts) : Ev (fun k => H4.f k f d ts) (BG f d ts) := by
 unfold BG iV
 show Ev (fun k => if f < 0 then _ else _) _
 by_cases c1 : f < 0
 ·exact Ev.yes c1 (Ev.ok (eN f d ts hs true) (by simp [c1]))
 refine Ev.no c1 ?_
 by_cases c2 : f > 1
 ·exact Ev.yes c2 (Ev.ok (eN f d ts hs true) (by simp [c2]))
 refine Ev.no c2 ?_
 by_cases c3 : d < 1
 ·exact Ev.yes c3 (Ev.ok (eN f d ts hs true) (by simp [c3]))
 refine Ev.no c3 ?_
 by_cases c4 : d > 32767
 ·exact Ev.yes c4 (Ev.ok (eN f d ts hs true) (by simp [c4]))
 refine Ev.no c4 ?_
 by_cases c5 : (ts.length : Int) < 1
 ·have PW : ts.length < 1 := by omega
  exact Ev.yes c5 (Ev.ok (eN f d ts hs true) (by simp [PW]))
 refine Ev.no c5 ?_
 have PW : ¬ ts.length < 1 := by omega
 by_cases c6 : (ts.length : Int) > 16
 ·have zX : ts.length > 16 := by omega
  exact Ev.yes c6 (Ev.ok (eN f d ts hs true) (by simp [zX]))
 refine Ev.no c6 ?_
 have zX : ¬ ts.length > 16 := by omega
 by_cases c7 : (ts.length : Int) > 1
 ·have Qj : ts.length > 1 := by omega
  refine Ev.yes c7 (Ev.ok (eN f d ts hs (f == 0)) ?_)
  by_cases c8 : f = 0 <;> simp [c1, c2, c3, c4, PW, zX, Qj, c8]
 ·have Qj : ¬ ts.length > 1 := by omega
  refine Ev.no c7 (Ev.ok (eN f d ts hs false) ?_)
  simp [c1, c2, c3, c4, PW, zX, Qj]
theorem as3 : ∀ {ts : List (List J1)} {i : Int}, (∀ l ∈ ts, zA l ∧ zB l = true) → cF ts i = (0, 0)
 | [], _, _ => rfl
 | l :: r, i, h => by
  obtain ⟨h1, h2⟩ := h l (by simp)
  rw [cF, if_neg (fun c => (at6 l).1 c h1), if_pos h2]
  exact as3 (fun x hx => h x (by simp [hx]))
theorem Qk : ∀ {ts : List (List J1)} {i : Int}, (cF ts i).2 = 0 → ∀ l ∈ ts, zA l ∧ zB l = true
 | [], _, _ => fun l hl => by cases hl
 | l :: r, i, h => by
  rw [cF] at h
  by_cases c : l.any JE = true
  ·rw [if_pos c] at h; cases h
  ·rw [if_neg c] at h
   by_cases c2 : zB l = true
   ·rw [if_pos c2] at h
    intro x hx
    rcases List.mem_cons.1 hx with rfl | hx
    ·exact ⟨Classical.byContradiction fun hn => c ((at6 x).2 hn), c2⟩
    ·exact Qk h x hx
   ·rw [if_neg c2] at h; cases h
theorem cn5 {a b : J1} (h0 : a.f0 = b.f0) (h1 : a.f1 = b.f1) (h2 : a.f2 = b.f2) (h3 : a.f3 = b.f3) (h4 : a.f4 = b.f4) (h5 : a.f5 = b.f5) : a = b := by
 cases a; cases b; cases h0; cases h1; cases h2; cases h3; cases h4; cases h5; rfl
noncomputable instance : DecidableEq J1 := fun a b => Classical.propDecidable _
def oZ (a b : J1) : Bool := (!((a.f0) == (b.f0)) || (!((a.f1) == (b.f1)) || (!((a.f2) == (b.f2)) || (!((a.f3) == (b.f3)) || (!((a.f4) == (b.f4)) || (!(((a.f5).toList) == ((b.f5).toList))))))))
theorem ah8 (a b : J1) : oZ a b = true ↔ a ≠ b := by
 unfold oZ
 simp only [Bool.or_eq_true, Bool.not_eq_true', beq_eq_false_iff_ne, ne_eq]
 constructor
 ·rintro h rfl
  simp at h
 ·intro h
  refine Classical.byContradiction fun hn => h ?_
  simp only [not_or, Decidable.not_not] at hn
  obtain ⟨h0, h1, h2, h3, h4, h5⟩ := hn
  exact cn5 h0 h1 h2 h3 h4 (toList_eq.1 h5)
theorem ar7 (a b : List J1) (hl : a.length ≤ 1000000000) (he : a.length = b.length) : ∀ (j i k : Nat), i + j = a.length → j < k → ∃ r, N_.l0 k a b (a.length : Int) (i : Int) = some r ∧ (r = true ↔ a.drop i = b.drop i)
 | 0, i, k, hj, X => by
  obtain ⟨k, rfl⟩ : ∃ m, k = m + 1 := ⟨k - 1, by omega⟩
  simp only [N_.l0]
  rw [if_neg (by omega), List.drop_eq_nil_of_le (by omega), List.drop_eq_nil_of_le (by omega)]
  exact ⟨true, rfl, by simp⟩
 | j + 1, i, k, hj, X => by
  obtain ⟨k, rfl⟩ : ∃ m, k = m + 1 := ⟨k - 1, by omega⟩
  simp only [N_.l0]
  rw [if_pos (by omega), if_pos (by omega), if_pos (by omega), if_pos (by omega)]
  have e1 : wrap64 ((i : Int) + 1) = ((i + 1 : Nat) : Int) := by rw [U3 (by omega) (by omega)]; omega
  rw [cI a i (by omega), cI b i (by omega), e1]
  show ∃ r, (if oZ (U a (i : Int)) (U b (i : Int)) = true then some false else N_.l0 k a b (a.length : Int) ((i + 1 : Nat) : Int)) = some r ∧ _
  by_cases c : oZ (U a (i : Int)) (U b (i : Int)) = true
  ·rw [if_pos c]
   refine ⟨false, rfl, ?_⟩
   have := (ah8 _ _).1 c
   simp [this]
  ·rw [if_neg c]
   obtain ⟨r, h1, h2⟩ := ar7 a b hl he j (i + 1) k (by omega) (by omega)
   refine ⟨r, h1, ?_⟩
   have : U a (i : Int) = U b (i : Int) := Classical.byContradiction fun hn => c ((ah8 _ _).2 hn)
   rw [h2, this, List.cons.injEq]
   simp
theorem da3 (a b : List J1) (hl : a.length ≤ 1000000000) : Ev (fun k => N_.f k a b) (decide (a = b)) := by
 by_cases c : (a.length : Int) = (b.length : Int)
 ·refine ⟨a.length + 1, fun k X => ?_⟩
  show (if (a.length : Int) = (b.length : Int) then _ else _) = _
  rw [if_pos c]
  obtain ⟨r, h1, h2⟩ := ar7 a b hl (by omega) a.length 0 k (by omega) (by omega)
  rw [show ((0 : Nat) : Int) = 0 from rfl] at h1
  rw [h1]
  simp only [List.drop_zero] at h2
  congr 1
  rw [Bool.eq_iff_iff, h2, decide_eq_true_eq]
 ·refine Ev.no c (Ev.ok (Ev.now _) ?_)
  rw [decide_eq_false (by rintro rfl; exact c rfl)]
theorem ak3 (a b : List (List J1)) (hs : Small a) (he : a.length = b.length) : ∀ (j i : Nat), i + j = a.length → Ev (fun k => AA.l0 k b a (a.length : Int) (i : Int)) (decide (a.drop i = b.drop i))
 | 0, i, hj => by
  refine Ev.step (fun k => by rw [AA.l0]) (Ev.no (by omega) (Ev.ok (Ev.now _) ?_))
  rw [List.drop_eq_nil_of_le (by omega), List.drop_eq_nil_of_le (by omega)]
  simp
 | j + 1, i, hj => by
  refine Ev.step (fun k => by rw [AA.l0]) (Ev.yes (by omega) (Ev.yes (by omega) (Ev.yes (by omega) (Ev.yes (by omega) ?_))))
  have hl : (L0 a (i : Int)).length ≤ 1000000000 := hs.2 _ (aN a i (by omega))
  have e1 : wrap64 ((i : Int) + 1) = ((i + 1 : Nat) : Int) := by have := hs.1; rw [U3 (by omega) (by omega)]; omega
  refine Ev.bind (da3 _ _ hl) ?_
  rw [sL a i (by omega), sL b i (by omega), e1]
  by_cases c : L0 a (i : Int) = L0 b (i : Int)
  ·refine Ev.yes (decide_eq_true c) (Ev.ok (ak3 a b hs he j (i + 1) (by omega)) ?_)
   rw [c]
   simp
  ·refine Ev.no (by simp [c]) (Ev.ok (Ev.now _) ?_)
   simp [c]
theorem aq1 (f d : Int) (a : List (List J1)) (f' d' : Int) (b : List (List J1)) (hs : Small a) : Ev (fun k => V8.f k f d a f' d' b) (decide (f = f' ∧ d = d' ∧ a = b)) := by
 show Ev (fun k => if f = f' then _ else _) _
 by_cases c1 : f = f'
 ·refine Ev.yes c1 ?_
  by_cases c2 : d = d'
  ·refine Ev.yes c2 ?_
   have h : Ev (fun k => AA.f k a b) (decide (a = b)) := by
    by_cases c3 : (a.length : Int) = (b.length : Int)
    ·exact Ev.yes c3 (ak3 a b hs (by omega) a.length 0 (by omega))
    ·refine Ev.no c3 (Ev.ok (Ev.now _) ?_)
     rw [decide_eq_false (by rintro rfl; exact c3 rfl)]
   refine Ev.ok (Ev.bind h (Ev.now _)) ?_
   simp [c1, c2]
  ·refine Ev.no c2 (Ev.ok (Ev.now _) ?_)
   simp [c2]
 ·refine Ev.no c1 (Ev.ok (Ev.now _) ?_)
  simp [c1]
end Go.Proofs.Ytdmnknhlibaaoaa.Z
namespace Go.Proofs.Ytdmnknhlibaaoaa.Z
open Go.RowKit Go.Proofs.YtdmnknhlibaaoaaW.PrintWords Go.Proofs.YtdmnknhlibaaoaaW.PrintLast Go.Proofs.Ytdmnknhlibaaoaa.M
set_option linter.unusedVariables false
def two (n : Int) : List Int := [n / 256 % 256, n % 256]
def four (n : Int) : List Int := [n / 16777216 % 256, n / 65536 % 256, n / 256 % 256, n % 256]
def Cn : List Int := [77, 84, 104, 100, 0, 0, 0, 6]
def xG : List Int := [77, 84, 114, 107]
def RM (l : List J1) : List Int := xG ++ (four (enc 0 l).length ++ enc 0 l)
def hJ : List (List J1) → List Int
 | [] => []
 | l :: r => RM l ++ hJ r
def DZ (f d : Int) (n : Nat) : List Int := Cn ++ (two f ++ (two n ++ two d))
def SJ (f d : Int) (ts : List (List J1)) : List Int := DZ f d ts.length ++ hJ ts
def lD : List (List J1) → Nat
 | [] => 0
 | l :: r => P9 l + 8 + lD r
theorem LZ : ∀ {ts : List (List J1)} {l : List J1}, l ∈ ts → P9 l ≤ lD ts
 | l :: r, x, h => by
  rw [lD]
  rcases List.mem_cons.1 h with rfl | h
  ·omega
  ·have := LZ h; omega
theorem af8 (l : List J1) : (RM l).length = (enc 0 l).length + 8 := by
 unfold RM xG four
 simp only [List.length_append, List.length_cons, List.length_nil]
 omega
theorem ak9 : ∀ ts : List (List J1), (hJ ts).length ≤ lD ts
 | [] => Nat.le_refl _
 | l :: r => by
  rw [hJ, lD, List.length_append, af8]
  have := eZ l 0
  have := ak9 r
  omega
theorem Sk (f d : Int) (n : Nat) : (DZ f d n).length = 14 := rfl
theorem cq1 (n : Int) : Bytes (four n) := by
 unfold four
 exact .cons (by omega) (by omega) (.cons (by omega) (by omega) (.cons (by omega) (by omega) (.cons (by omega) (by omega) .nil)))
theorem Xl (n : Int) : Bytes (two n) := by
 unfold two
 exact .cons (by omega) (by omega) (.cons (by omega) (by omega) .nil)
theorem ct5 : Bytes xG := by
 unfold xG
 intro x hx
 simp only [List.mem_cons, List.not_mem_nil, or_false] at hx
 omega
theorem cw6 : Bytes Cn := by
 unfold Cn
 intro x hx
 simp only [List.mem_cons, List.not_mem_nil, or_false] at hx
 omega
theorem cz0 {l : List J1} (h : zA l) : Bytes (RM l) := ct5.append ((cq1 _).append (Sm h))
theorem al9 : ∀ {ts : List (List J1)}, (∀ l ∈ ts, zA l) → Bytes (hJ ts)
 | [], _ => .nil
 | l :: r, h => (cz0 (h l (by simp))).append (al9 (fun x hx => h x (by simp [hx])))
theorem cp4 (f d : Int) (n : Nat) : Bytes (DZ f d n) := cw6.append ((Xl _).append ((Xl _).append (Xl _)))
theorem da8 {f d : Int} {ts : List (List J1)} (h : ∀ l ∈ ts, zA l) : Bytes (SJ f d ts) := (cp4 _ _ _).append (al9 h)
def fin (o : List Int) : ByteArray × Int := if (o.length : Int) > 100000 then (⟨#[]⟩, 160) else (strOfNums o, 0)
theorem al7 (ts : List (List J1)) (hl : ts.length ≤ 1000000000) (hr : ∀ l ∈ ts, zA l ∧ P9 l ≤ 1000000000) : ∀ (j i : Nat) (out : List Int), i + j = ts.length → out.length + lD (ts.drop i) ≤ 2000000000 →
 Ev (fun k => Q5.l1 k out ts (ts.length : Int) (i : Int)) (fin (out ++ hJ (ts.drop i)))
 | 0, i, out, hj, ho => by
  refine Ev.step (fun k => by rw [Q5.l1]) ?_
  refine Ev.no (by omega) ?_
  rw [List.drop_eq_nil_of_le (by omega), hJ, List.append_nil]
  unfold fin
  by_cases c : (out.length : Int) > 100000
  ·exact Ev.yes c (Ev.ok (Ev.now _) (by rw [if_pos c]))
  ·exact Ev.no c (Ev.ok (Ev.now _) (by rw [if_neg c]))
 | j + 1, i, out, hj, ho => by
  have hm := aN ts i (by omega)
  have hd := sL ts i (by omega)
  rw [hd, lD] at ho
  generalize l4 : L0 ts (i : Int) = l at *
  obtain ⟨h1, h2⟩ := hr l hm
  have hen := eZ l 0
  have YF : (strOfNums (enc 0 l)).size = (enc 0 l).length := P_ _
  have G : bytesOf (strOfNums (enc 0 l)) = enc 0 l := lN (Sm h1)
  have e1 : wrap64 ((i : Int) + 1) = ((i + 1 : Nat) : Int) := by rw [U3 (by omega) (by omega)]; omega
  refine Ev.step (fun k => by rw [Q5.l1]) ?_
  refine Ev.yes (by omega) (Ev.yes (by omega) (Ev.yes (by omega) ?_))
  rw [l4]
  refine Ev.bind (ct7 h1 h2) ?_
  dsimp only
  refine Ev.yes (by omega) (Ev.bind (Ev.now _) (Ev.bind (Ev.now _) ?_))
  have hy : bytesOf (⟨#[77, 84, 114, 107]⟩ : ByteArray) = xG := rfl
  rw [hy, YF]
  have hlen : xG.length = 4 := rfl
  refine Ev.yes (by rw [List.length_append, hlen]; simp only [List.length_cons, List.length_nil]; omega) (Ev.bind (Ev.now _) (Ev.yes ?_ ?_))
  ·rw [List.length_append, List.length_append, hlen]; simp only [List.length_cons, List.length_nil]; omega
  ·rw [G, e1, hd, hJ]
   have ih := al7 ts hl hr j (i + 1) (out ++ RM l) (by omega) (by rw [List.length_append, af8]; omega)
   have e2 : out ++ xG ++ [((enc 0 l).length : Int) / 16777216 % 256, ((enc 0 l).length : Int) / 65536 % 256, ((enc 0 l).length : Int) / 256 % 256, ((enc 0 l).length : Int) % 256] ++ enc 0 l = out ++ RM l := by
    unfold RM four
    simp only [List.append_assoc]
   rw [e2]
   rw [List.append_assoc] at ih
   exact ih
theorem an8 (f d : Int) (ts : List (List J1)) (hs : Small ts) (ht : lD ts ≤ 1000000000) :
 Ev (fun k => Q5.f k f d ts) (if (BG f d ts).2 = 0 then fin (SJ f d ts) else (⟨#[]⟩, (BG f d ts).2)) := by
 refine Ev.bind (al2 f d ts hs) ?_
 by_cases c : (BG f d ts).2 = 0
 ·rw [if_pos c]
  refine Ev.yes c (Ev.bind (Ev.now _) ?_)
  have hr : ∀ l ∈ ts, zA l ∧ P9 l ≤ 1000000000 := by
   intro l hl
   have h2 : (cF ts 0).2 = 0 := by
    unfold BG at c
    split at c
    ·cases c
    ·exact c
   exact ⟨(Qk h2 l hl).1, Nat.le_trans (LZ hl) ht⟩
  have hlen : ([f, (ts.length : Int), d] : List Int).length = 3 := rfl
  rw [hlen]
  refine Ev.step (fun k => by rw [Q5.l0]) ?_
  refine Ev.yes (by decide) (Ev.yes (by decide) (Ev.yes (by simp) (Ev.bind (Ev.now _) (Ev.yes (by simp) ?_))))
  rw [show wrap64 ((0 : Int) + 1) = 1 from by rw [U3 (by decide) (by decide)]; rfl]
  refine Ev.step (fun k => by rw [Q5.l0]) ?_
  refine Ev.yes (by decide) (Ev.yes (by decide) (Ev.yes (by simp) (Ev.bind (Ev.now _) (Ev.yes (by simp) ?_))))
  rw [show wrap64 ((1 : Int) + 1) = 2 from by rw [U3 (by decide) (by decide)]; rfl]
  refine Ev.step (fun k => by rw [Q5.l0]) ?_
  refine Ev.yes (by decide) (Ev.yes (by decide) (Ev.yes (by simp) (Ev.bind (Ev.now _) (Ev.yes (by simp) ?_))))
  rw [show wrap64 ((2 : Int) + 1) = 3 from by rw [U3 (by decide) (by decide)]; rfl]
  refine Ev.step (fun k => by rw [Q5.l0]) ?_
  refine Ev.no (by decide) ?_
  have h := al7 ts hs.1 hr ts.length 0 (DZ f d ts.length) (by omega) (by rw [Sk, List.drop_zero]; omega)
  rw [List.drop_zero] at h
  exact h
 ·rw [if_neg c]
  exact Ev.no c (Ev.now _)
end Go.Proofs.Ytdmnknhlibaaoaa.Z
namespace Go.Proofs.Ytdmnknhlibaaoaa.Z
open Go.RowKit Go.Proofs.YtdmnknhlibaaoaaW.PrintWords Go.Proofs.YtdmnknhlibaaoaaW.PrintLast Go.Proofs.YtdmnknhlibaaoaaW.PrintMore Go.Proofs.Ytdmnknhlibaaoaa.M
set_option linter.unusedVariables false
def mV (b : List Int) : Int := ((rd b 0 * 256 + rd b 1) * 256 + rd b 2) * 256 + rd b 3
inductive UJ : List Int → Except (Nat × Int) (List J1 × List Int) → Prop
 | short {r : List Int} : r.length < 8 → UJ r (.error (0, 152))
 | cut {t b rest : List Int} : t.length = 4 → b.length = 4 → (rest.length : Int) < mV b → UJ (t ++ (b ++ rest)) (.error (0, 152))
 | other {t b d rest : List Int} : t.length = 4 → b.length = 4 → (d.length : Int) = mV b → t ≠ xG → UJ (t ++ (b ++ (d ++ rest))) (.ok ([], rest))
 | track {b d rest : List Int} {ms : List J1} : b.length = 4 → (d.length : Int) = mV b → eJ 0 d ms → zB ms = true → UJ (xG ++ (b ++ (d ++ rest))) (.ok (ms, rest))
 | noend {b d rest : List Int} {ms : List J1} : b.length = 4 → (d.length : Int) = mV b → eJ 0 d ms → zB ms = false → UJ (xG ++ (b ++ (d ++ rest))) (.error (d.length + rest.length, 160))
 | bad {b d rest : List Int} {e : Int} {j : Nat} : b.length = 4 → (d.length : Int) = mV b → WJ 0 d e j → UJ (xG ++ (b ++ (d ++ rest))) (.error (j + rest.length, e))
section
variable {s : ByteArray} (hs : s.size ≤ 100000)
include hs
end
end Go.Proofs.Ytdmnknhlibaaoaa.Z
namespace Go.Proofs.Ytdmnknhlibaaoaa.Z
open Go.RowKit Go.Proofs.YtdmnknhlibaaoaaW.PrintWords Go.Proofs.YtdmnknhlibaaoaaW.PrintLast Go.Proofs.Ytdmnknhlibaaoaa.M
set_option linter.unusedVariables false
set_option linter.unusedSimpArgs false
theorem IZ (n : Int) (xs : List Int) (k : Nat) (hn : n < 128) : B7.l0 (k + 1) n xs = some (strOfNums xs, 0) := by
 simp only [B7.l0]
 rw [if_neg (by omega)]
theorem En (n : Int) (xs : List Int) (k : Nat) (hn : 128 ≤ n) (AN : n ≤ 268435455) (hx : xs.length ≤ 10) : B7.l0 (k + 1) n xs = B7.l0 k (n / 128) ((n / 128 % 128 + 128) :: xs) := by
 simp only [B7.l0]
 have e1 : Int.tdiv n 128 = n / 128 := Int.tdiv_eq_ediv_of_nonneg (by omega)
 have e2 : Int.tmod (n / 128) 128 = n / 128 % 128 := Int.tmod_eq_emod_of_nonneg (by omega)
 rw [if_pos (by omega), e1, U3 (x := n / 128) (by omega) (by omega), e2, U3 (by omega) (by omega), Option.bind_some, if_pos (by simp; omega)]
 have e3 : (128 + n / 128 % 128) % 256 = n / 128 % 128 + 128 := by omega
 rw [e3]
 rfl
theorem aj2 {n : Int} (k : Nat) (X : 6 ≤ k) (h0 : 0 ≤ n) (h1 : n ≤ 268435455) : B7.f k n = some (strOfNums (num n), 0) := by
 obtain ⟨k, rfl⟩ : ∃ m, k = m + 6 := ⟨k - 6, by omega⟩
 unfold B7.f
 rw [if_neg (by omega)]
 simp only [B7.j0]
 have e0 : Int.tmod n 128 % 256 = n % 128 := by rw [Int.tmod_eq_emod_of_nonneg h0]; omega
 rw [if_neg (by rw [decide_eq_true_eq]; omega), e0]
 by_cases a : n < 128
 ·rw [IZ _ _ _ a, RY h0 a]
  have : n % 128 = n := by omega
  rw [this]
 ·rw [En _ _ _ (by omega) h1 (by simp)]
  by_cases b : n < 16384
  ·rw [IZ _ _ _ (by omega), Gl (by omega) b]
   have : n / 128 % 128 = n / 128 := by omega
   rw [this]
  ·rw [En _ _ _ (by omega) (by omega) (by simp)]
   by_cases c : n < 2097152
   ·rw [IZ _ _ _ (by omega), aq6 (by omega) c]
    have e : n / 128 / 128 % 128 = n / 16384 := by omega
    rw [e]
   ·rw [En _ _ _ (by omega) (by omega) (by simp), IZ _ _ _ (by omega), cm7 (by omega) h1]
    have e : n / 128 / 128 % 128 = n / 16384 % 128 := by omega
    have e2 : n / 128 / 128 / 128 % 128 = n / 2097152 := by omega
    rw [e, e2]
theorem ak5 (s : ByteArray) (hs : s.size ≤ 140737488351232) : ∀ (j : Nat) (a n : Int) (k : Nat), j ≤ 4 → j < k → 0 ≤ n → n ≤ 268435455 → (n + 1) * 128 ^ j ≤ 268435456 → 0 ≤ a → a ≤ s.size →
 z7.l0 k s a n (4 - j) = some (dH s ((bytesOf s).drop a.toNat) j n)
 | 0, a, n, k, _, X, _, _, _, _, _ => by
  obtain ⟨k, rfl⟩ : ∃ m, k = m + 1 := ⟨k - 1, by omega⟩
  simp only [z7.l0]
  rw [if_neg (by omega)]
  rfl
 | j + 1, a, n, k, hj, X, hn, AN, G, ha, hp => by
  obtain ⟨k, rfl⟩ : ∃ m, k = m + 1 := ⟨k - 1, by omega⟩
  simp only [z7.l0]
  rw [if_pos (by omega)]
  have KW : (1 : Int) ≤ 128 ^ j := by
   have : (0 : Int) < 128 ^ j := Int.pow_pos (by decide)
   omega
  have C5 : (n + 1) * 128 ≤ 268435456 ∧ (n + 1) * 128 * 128 ^ j ≤ 268435456 := by
   rw [Int.pow_succ, Int.mul_comm (128 ^ j) 128, ← Int.mul_assoc] at G
   refine ⟨?_, G⟩
   have := Int.mul_le_mul_of_nonneg_left KW (show 0 ≤ (n + 1) * 128 by omega)
   omega
  by_cases c1 : a = (s.size : Int)
  ·rw [if_pos c1]
   unfold dH
   rw [af2 s _ (by omega), ai3]
  ·have hr := aD s a
   have e2 : wrap64 (bt s a) = bt s a := U3 (by omega) (by omega)
   have e3 : wrap64 (128 * n) = 128 * n := U3 (by omega) (by omega)
   rw [if_neg c1, if_pos (by omega), if_pos (by omega), e2, e3]
   unfold dH
   rw [Nl s _ (by omega) (by omega)]
   generalize hc : bt s a = c at *
   by_cases c2 : c < 128
   ·rw [if_pos c2, nZ c2]
    rw [U3 (x := 128 * n + c) (by omega) (by omega), U3 (x := a + 1) (by omega) (by omega)]
    have hl := ap0 s (a + 1) (by omega) (by omega)
    dsimp only
    rw [hl]
    refine congrArg some ?_
    rw [show 128 * n + c = n * 128 + c by omega, show (s.size : Int) - (s.size - (a + 1)) = a + 1 by omega]
   ·rw [if_neg c2, NY c2]
    rw [U3 (x := 128 * n + c) (by omega) (by omega), U3 (x := a + 1) (by omega) (by omega), U3 (x := 128 * n + c - 128) (by omega) (by omega), U3 (by omega) (by omega)]
    have Df : (n * 128 + (c - 128) + 1) * 128 ^ j ≤ 268435456 := by
     have := Int.mul_le_mul_of_nonneg_right (show n * 128 + (c - 128) + 1 ≤ (n + 1) * 128 by omega) (show (0 : Int) ≤ 128 ^ j by omega)
     omega
    have ih := ak5 s hs j (a + 1) (n * 128 + (c - 128)) k (by omega) (by omega) (by omega) (by omega) Df (by omega) (by omega)
    have e5 : (4 - ((j + 1 : Nat) : Int)) + 1 = 4 - (j : Int) := by omega
    rw [e5, show 128 * n + c - 128 = n * 128 + (c - 128) by omega, ih]
    rfl
theorem an0 (s : ByteArray) (a : Int) (k : Nat) (X : 7 ≤ k) (h0 : 0 ≤ a) (h1 : a ≤ s.size) (hs : s.size ≤ 140737488351232) :
 z7.f k s a = some (dH s ((bytesOf s).drop a.toNat) 4 0) := by
 unfold z7.f
 rw [if_neg (by omega)]
 obtain ⟨k, rfl⟩ : ∃ m, k = m + 1 := ⟨k - 1, by omega⟩
 simp only [z7.j0]
 rw [if_neg (by rw [decide_eq_true_eq]; omega)]
 have h := ak5 s hs 4 a 0 k (by omega) (by omega) (by omega) (by omega) (by decide) h0 h1
 have e : (4 : Int) - ((4 : Nat) : Int) = 0 := by omega
 rw [e] at h
 exact h
set_option maxHeartbeats 1000000 in
theorem an7 (m : J1) (k : Nat) (X : 6 ≤ k) : S5.f k m.f0 m.f1 m.f2 m.f3 m.f4 m.f5 = some (decide (iC m)) := by
 obtain ⟨f0, f1, f2, f3, f4, f5⟩ := m
 obtain ⟨k, rfl⟩ : ∃ q, k = q + 6 := ⟨k - 6, by omega⟩
 generalize hD : decide (iC ⟨f0, f1, f2, f3, f4, f5⟩) = D
 have hR : D = true ↔ (0 ≤ f0 ∧ f0 ≤ 268435455 ∧ f5.size ≤ 100000 ∧ ((8 ≤ f1 ∧ f1 ≤ 14 ∧ 0 ≤ f2 ∧ f2 ≤ 15 ∧ 0 ≤ f3 ∧ f3 ≤ 127 ∧ 0 ≤ f4 ∧ f4 ≤ 127 ∧ (f1 = 12 ∨ f1 = 13 → f4 = 0) ∧ f5.size = 0) ∨
  (f1 = 15 ∧ f2 = 0 ∧ f4 = 0 ∧ (f3 = 240 ∨ f3 = 247)) ∨ (f1 = 16 ∧ f2 = 0 ∧ f4 = 0 ∧ 0 ≤ f3 ∧ f3 ≤ 127))) := by
   rw [← hD, decide_eq_true_eq]; rfl
 clear hD
 simp only [S5.f, S5.j0, S5.j1, S5.j2, Option.bind_some, decide_eq_true_eq, beq_iff_eq, Bool.false_eq_true, if_false, if_true]
 repeat' (refine at5 (fun _ => ?_) (fun _ => ?_))
 all_goals
  refine congrArg some ?_
  rw [Bool.eq_iff_iff, hR]
  simp only [decide_eq_true_eq, beq_iff_eq, bne_iff_ne, Bool.false_eq_true, false_iff, true_iff]
  omega
end Go.Proofs.Ytdmnknhlibaaoaa.Z
namespace Go.Proofs.Ytdmnknhlibaaoaa.Z
open Go.RowKit Go.Proofs.YtdmnknhlibaaoaaW.PrintWords Go.Proofs.YtdmnknhlibaaoaaW.PrintLast Go.Proofs.Ytdmnknhlibaaoaa.M
set_option linter.unusedVariables false
set_option linter.unusedSimpArgs false
theorem as5 (m : J1) (h : iC m) : CE.f m.f0 m.f1 m.f2 m.f3 m.f4 m.f5 = some (if m.f1 = 16 then 255 else if m.f1 = 15 then m.f3 else 16 * m.f1 + m.f2) := by
 obtain ⟨f0, f1, f2, f3, f4, f5⟩ := m
 obtain ⟨h0, h1, h2, h⟩ := h
 dsimp only at h0 h1 h2 h ⊢
 unfold CE.f
 rw [U3 (x := 16 * f1) (by omega) (by omega), U3 (by omega) (by omega)]
 split
 ·rfl
 ·split <;> rfl
def gJ (l : List J1) (i : Nat) : Int := if i = 0 then 0 else cE (U l ((i : Int) - 1))
theorem cz9 (l : List J1) (i : Nat) : gJ l (i + 1) = cE (U l (i : Int)) := by
 unfold gJ
 rw [if_neg (by omega), show ((i + 1 : Nat) : Int) - 1 = (i : Int) by omega]
theorem Sl (x : Int) : (strOfNums [x]).size = 1 := by rw [P_]; rfl
theorem cm9 (k : Nat) (out : List Int) (l : List J1) (i : Nat) (hi : i < l.length) (X : 10 ≤ k) (hl : l.length ≤ 1000000000) (hr : iC (U l (i : Int))) (hp : ∀ j, j < i → iC (U l (j : Int)))
 (ho : out.length + (U l (i : Int)).f5.size + 10 ≤ 2000000000) :
 G3.l0 (k + 4) l (strOfNums out) (i : Int) = G3.l0 k l (strOfNums (out ++ mF (gJ l i) (U l (i : Int)))) ((i + 1 : Nat) : Int) := by
 have e1 : wrap64 ((i : Int) + 1) = ((i + 1 : Nat) : Int) := by rw [U3 (by omega) (by omega)]; omega
 have em1 : wrap64 ((i : Int) - 1) = (i : Int) - 1 := U3 (by omega) (by omega)
 have oQ := as5 _ hr
 have Oq : 0 < i → iC (U l ((i : Int) - 1)) := fun h0 => by
  have := hp (i - 1) (by omega)
  rwa [show ((i - 1 : Nat) : Int) = (i : Int) - 1 by omega] at this
 have bp3 : 0 < i → CE.f _ _ _ _ _ _ = _ := fun h0 => as5 _ (Oq h0)
 have Tq := an7 (U l (i : Int)) (k + 3) (by omega)
 generalize hm : U l (i : Int) = m at *
 have hR := hr
 obtain ⟨f0, f1, f2, f3, f4, f5⟩ := m
 obtain ⟨h0, h1, h2, h⟩ := hr
 dsimp only at h0 h1 h2 h ho oQ Tq ⊢
 have hn := (dN f0).2
 have AN := (dN f5.size).2
 have WV := pH f5
 have e3 : f3 % 256 = f3 := by omega
 have e4 : f4 % 256 = f4 := by omega
 have VL : ∀ a b : List Int, strOfNums a ++ strOfNums b = strOfNums (a ++ b) := fun a b => (kN a b).symm
 have ZL : ∀ (k : Nat) (o : List Int), o.length + f5.size + 8 ≤ 3000000000 → G3.j2 (k + 2) l (strOfNums o) (i : Int) (strOfNums (num f5.size)) f0 f1 f2 f3 f4 f5 =
  G3.l0 k l (strOfNums (o ++ (if f1 = 15 then num f5.size ++ bytesOf f5 else if f1 = 16 then f3 :: (num f5.size ++ bytesOf f5) else f3 :: (if f1 = 12 ∨ f1 = 13 then [] else [f4])))) ((i + 1 : Nat) : Int) := by
  intro k o KH
  simp only [G3.j2, G3.j3]
  rw [e3, e4, e1]
  by_cases i5 : f1 = 15
  ·rw [if_pos i5, if_pos i5, if_pos (by omega), if_pos (by rw [P_, P_]; omega), VL, if_pos (by rw [P_, List.length_append]; omega)]
   rw [show f5 = strOfNums (bytesOf f5) from (jR f5).symm, VL, lN (ZO f5), jR]
   rw [List.append_assoc]
  ·rw [if_neg i5, if_neg i5, Option.bind_some, if_pos (by rw [P_, Sl]; omega), VL]
   by_cases Q8 : f1 = 16
   ·rw [if_pos Q8, if_pos (by omega), if_pos (by rw [P_, P_, List.length_append]; simp; omega), VL, if_pos (by rw [P_, List.length_append, List.length_append]; simp; omega)]
    rw [show f5 = strOfNums (bytesOf f5) from (jR f5).symm, VL, lN (ZO f5), jR]
    simp only [List.append_assoc, List.cons_append, List.nil_append]
   ·rw [if_neg Q8, if_neg (by omega)]
    by_cases O6 : f1 = 12 ∨ f1 = 13
    ·rw [if_pos O6]
     by_cases d : f1 = 12
     ·rw [if_pos d]
     ·rw [if_neg d, if_pos (by omega)]
    ·rw [if_neg O6, if_neg (by omega), if_neg (by omega), Option.bind_some, if_pos (by rw [P_, Sl, List.length_append]; simp; omega), VL]
     simp only [List.append_assoc, List.cons_append, List.nil_append]
 have IW : ∀ (b : Bool) (o : List Int), o.length + f5.size + 9 ≤ 2500000000 → G3.j1 (k + 3) l (strOfNums o) (i : Int) (strOfNums (num f5.size)) b f0 f1 f2 f3 f4 f5 =
  G3.l0 k l (strOfNums (o ++ ((if b = true then [if f1 = 16 then 255 else if f1 = 15 then f3 else 16 * f1 + f2] else []) ++ (if f1 = 15 then num f5.size ++ bytesOf f5 else if f1 = 16 then f3 :: (num f5.size ++ bytesOf f5) else f3 :: (if f1 = 12 ∨ f1 = 13 then [] else [f4]))))) ((i + 1 : Nat) : Int) := by
  intro b o KH
  simp only [G3.j1]
  have es : (if f1 = 16 then (255 : Int) else if f1 = 15 then f3 else 16 * f1 + f2) % 256 = (if f1 = 16 then 255 else if f1 = 15 then f3 else 16 * f1 + f2) := by
   split
   ·rfl
   ·split
    ·exact e3
    ·omega
  cases b with
  | true =>
   rw [if_pos rfl, if_pos rfl, oQ, Option.bind_some, es, Option.bind_some, if_pos (by rw [P_, Sl]; omega), VL, ZL k _ (by rw [List.length_append]; simp; omega), List.append_assoc]
  | false =>
   rw [if_neg (by decide), if_neg (by decide), ZL k _ (by omega), List.nil_append]
 simp only [G3.l0]
 rw [if_pos (by omega), if_pos (by omega), hm]
 dsimp only
 rw [Tq, decide_eq_true hR, Option.bind_some, if_pos rfl, aj2 _ (by omega) h0 h1, Option.bind_some, aj2 _ (by omega) (by omega) (by omega), Option.bind_some]
 dsimp only
 rw [if_pos (by rw [P_, P_]; omega), VL]
 have AL : ∀ b : Bool, ((b = true) ↔ (15 ≤ f1 ∨ 16 * f1 + f2 ≠ gJ l i)) → out ++ mF (gJ l i) ⟨f0, f1, f2, f3, f4, f5⟩ = (out ++ num f0) ++ ((if b = true then [if f1 = 16 then 255 else if f1 = 15 then f3 else 16 * f1 + f2] else []) ++ (if f1 = 15 then num f5.size ++ bytesOf f5 else if f1 = 16 then f3 :: (num f5.size ++ bytesOf f5) else f3 :: (if f1 = 12 ∨ f1 = 13 then [] else [f4]))) := by
  intro b G
  unfold mF
  dsimp only
  by_cases Q8 : f1 = 16
  ·rw [if_pos Q8, if_pos (G.2 (.inl (by omega))), if_pos Q8, if_neg (by omega), if_pos Q8]
   simp only [List.append_assoc, List.cons_append, List.nil_append]
  ·rw [if_neg Q8]
   by_cases i5 : f1 = 15
   ·rw [if_pos i5, if_pos (G.2 (.inl (by omega))), if_neg Q8, if_pos i5, if_pos i5]
    simp only [List.append_assoc, List.cons_append, List.nil_append]
   ·rw [if_neg i5, if_neg i5, if_neg Q8]
    by_cases c : 16 * f1 + f2 = gJ l i
    ·rw [if_pos c, if_neg (show ¬ b = true from fun hh => by rcases G.1 hh with x | x; omega; exact x c), if_neg i5, if_neg Q8]
     simp only [List.append_assoc]
    ·rw [if_neg c, if_pos (show b = true from G.2 (.inr c)), if_neg Q8, if_neg i5]
     simp only [List.append_assoc]
 by_cases i5 : f1 ≥ 15
 ·rw [if_pos i5, IW true _ vP, AL true ⟨fun _ => .inl i5, fun _ => rfl⟩]
 ·rw [if_neg i5]
  have ch9 : (if f1 = 16 then (255 : Int) else if f1 = 15 then f3 else 16 * f1 + f2) = 16 * f1 + f2 := by rw [if_neg (by omega), if_neg (by omega)]
  by_cases ci : (i : Int) = 0
  ·rw [if_pos ci, IW true _ vP, AL true ⟨fun _ => .inr (by unfold gJ; rw [if_pos (by omega)]; omega), fun _ => rfl⟩]
  ·rw [if_neg ci, em1, if_pos (by omega), if_pos (by omega)]
   have hpi := Oq (by omega)
   have Wa : gJ l i = cE (U l ((i : Int) - 1)) := by unfold gJ; rw [if_neg (by omega)]
   by_cases cp : (U l ((i : Int) - 1)).f1 ≥ 15
   ·rw [if_pos cp, IW true _ vP, AL true ⟨fun _ => .inr ?_, fun _ => rfl⟩]
    rw [Wa]
    obtain ⟨_, _, _, hh⟩ := hpi
    unfold cE
    split
    ·omega
    ·rw [if_pos (by omega)]; omega
   ·rw [if_neg cp, bp3 (by omega), Option.bind_some, oQ, Option.bind_some, IW _ _ vP, AL _ ?_]
    rw [bne_iff_ne, ch9, Wa]
    unfold cE
    rw [if_neg (by omega), if_neg (by omega), if_neg (by omega), if_neg (by omega)]
    omega
theorem am4 (l : List J1) (hl : l.length ≤ 1000000000) : ∀ (j i : Nat) (out : List Int) (k : Nat), i + j = l.length → (∀ q, q < i → iC (U l (q : Int))) → zA (l.drop i) → out.length + P9 (l.drop i) ≤ 1000000000 → 4 * j + 15 < k →
 G3.l0 k l (strOfNums out) (i : Int) = some (strOfNums (out ++ enc (gJ l i) (l.drop i)), 0)
 | 0, i, out, k, hj, _, _, _, X => by
  obtain ⟨k, rfl⟩ : ∃ m, k = m + 1 := ⟨k - 1, by omega⟩
  simp only [G3.l0]
  rw [if_neg (by omega), List.drop_of_length_le (by omega), ah1, List.append_nil]
 | j + 1, i, out, k, hj, hq, hr, ho, X => by
  obtain ⟨k, rfl⟩ : ∃ m, k = m + 4 := ⟨k - 4, by omega⟩
  have hi : i < l.length := by omega
  rw [cI l i hi] at hr ho ⊢
  simp only [P9] at ho
  rw [cm9 k out l i hi (by omega) hl hr.head hq (by omega)]
  have YF := Gn (gJ l i) (U l (i : Int))
  have hq2 : ∀ q, q < i + 1 → iC (U l (q : Int)) := fun q h => by
   by_cases c : q = i
   ·rw [c]; exact hr.head
   ·exact hq q (by omega)
  rw [am4 l hl j (i + 1) _ k (by omega) hq2 hr.tail vP (by omega), vV, List.append_assoc, cz9]
theorem cm2 {l : List J1} (hr : zA l) (ht : P9 l ≤ 1000000000) : Ev (fun k => G3.f k l) (strOfNums (enc 0 l), 0) :=
 ⟨4 * l.length + 16, fun k X => by
  have h := am4 l (ag4 ht) l.length 0 [] k (by omega) (fun q h => by omega) (by simpa using hr) (by simpa using ht) (by omega)
  show G3.l0 k l (strOfNums []) (0 : Nat) = _
  rw [h]
  rfl⟩
end Go.Proofs.Ytdmnknhlibaaoaa.Z
namespace Go.Proofs.Ytdmnknhlibaaoaa.Z
open Go.RowKit Go.Proofs.YtdmnknhlibaaoaaW.PrintWords Go.Proofs.YtdmnknhlibaaoaaW.PrintLast Go.Proofs.YtdmnknhlibaaoaaW.PrintMore Go.Proofs.Ytdmnknhlibaaoaa.M
set_option linter.unusedVariables false
theorem da0 (m : J1) : UM.f m.f0 m.f1 m.f2 m.f3 m.f4 m.f5 = some (IC m) := by
 unfold UM.f IC
 by_cases h1 : m.f1 = 16
 ·rw [if_pos h1, decide_eq_true h1, Bool.true_and]
  by_cases h2 : m.f3 = 47
  ·rw [if_pos h2, decide_eq_true h2, Bool.true_and]
   congr 1
   rw [Bool.eq_iff_iff]
   simp only [beq_iff_eq, decide_eq_true_eq]
   exact toList_nil m.f5
  ·rw [if_neg h2, decide_eq_false h2, Bool.false_and]
 ·rw [if_neg h1, decide_eq_false h1, Bool.false_and]
theorem an4 (l : List J1) (hl : l.length ≤ 1000000000) : ∀ (j i : Nat), i + j = l.length → Ev (fun k => U9.l0 k l (i : Int)) (decide (0 < l.length) && (zB (l.drop i) || decide (j = 0)))
 | 0, i, hj => by
  refine Ev.step (fun k => by rw [U9.l0]) ?_
  refine Ev.no (by omega) (Ev.ok (Ev.now _) ?_)
  simp
 | j + 1, i, hj => by
  refine Ev.step (fun k => by rw [U9.l0]) ?_
  refine Ev.yes (by omega) (Ev.yes (by omega) (Ev.bind (Ev.eq (da0 (U l (i : Int)))) ?_))
  rw [U3 (x := (l.length : Int) - 1) (by omega) (by omega), U3 (x := (i : Int) + 1) (by omega) (by omega)]
  have h0 : decide (0 < l.length) = true := decide_eq_true (by omega)
  have ih := an4 l hl j (i + 1) (by omega)
  rw [h0, Bool.true_and] at ih ⊢
  rw [cI l i (by omega)]
  cases j with
  | zero =>
   have he : ((i : Int) == (l.length : Int) - 1) = true := beq_iff_eq.mpr (by omega)
   rw [he, List.drop_eq_nil_of_le (by omega : l.length ≤ i + 1)]
   cases hE : IC (U l (i : Int))
   ·exact Ev.yes rfl (Ev.ok (Ev.now _) (by simp [zB, hE]))
   ·exact Ev.no (by decide) (Ev.ok ih (by simp [zB, hE]))
  | succ j =>
   have he : ((i : Int) == (l.length : Int) - 1) = false := beq_eq_false_iff_ne.mpr (by omega)
   rw [he, cI l (i + 1) (by omega)]
   rw [cI l (i + 1) (by omega)] at ih
   cases hE : IC (U l (i : Int))
   ·exact Ev.no (by decide) (Ev.ok ih (by simp [zB, hE]))
   ·exact Ev.yes rfl (Ev.ok (Ev.now _) (by simp [zB, hE]))
theorem Qm (l : List J1) (hl : l.length ≤ 1000000000) : Ev (fun k => U9.f k l) (zB l) := by
 refine Ev.ok (an4 l hl l.length 0 (by omega)) ?_
 rw [List.drop_zero]
 cases l with
 | nil => rfl
 | cons m r => simp
theorem cs9 (t : ByteArray) {i : Nat} (h : i ≤ 3) : 0 ≤ b8 t i ∧ b8 t i < 16777216 := by
 obtain ⟨r1, r2, r3, _⟩ := qZ t
 rcases (show i = 0 ∨ i = 1 ∨ i = 2 ∨ i = 3 by omega) with rfl | rfl | rfl | rfl
 ·exact ⟨Int.le_refl 0, by show (0 : Int) < 16777216; decide⟩
 ·exact ⟨r1.1, by omega⟩
 ·exact ⟨r2.1, by omega⟩
 ·exact ⟨r3.1, by omega⟩
theorem aj8 (t : ByteArray) (ht : t.size ≤ 4) : ∀ (j i : Nat), i + j = t.size → Ev (fun k => L8.l0 k t (b8 t i) (i : Int)) (b8 t t.size)
 | 0, i, hj => by
  refine Ev.step (fun k => by rw [L8.l0]) ?_
  refine Ev.no (by omega) (Ev.ok (Ev.now _) ?_)
  rw [show t.size = i by omega]
 | j + 1, i, hj => by
  refine Ev.step (fun k => by rw [L8.l0]) ?_
  refine Ev.yes (by omega) (Ev.yes (by omega) ?_)
  obtain ⟨h0, h1⟩ := cs9 t (i := i) (by omega)
  have G := aD t (i : Int)
  have e1 : wrap64 (b8 t i * 256) = b8 t i * 256 := U3 (by omega) (by omega)
  have e2 : wrap64 (bt t (i : Int)) = bt t (i : Int) := U3 (by omega) (by omega)
  have e3 : wrap64 (b8 t i * 256 + bt t (i : Int)) = b8 t i * 256 + bt t (i : Int) := U3 (by omega) (by omega)
  have e4 : wrap64 ((i : Int) + 1) = ((i + 1 : Nat) : Int) := (U3 (by omega) (by omega)).trans (by omega)
  rw [e1, e2, e3, e4, ← jV h0 h1]
  exact aj8 t ht j (i + 1) (by omega)
theorem aq0 (t : ByteArray) (ht : t.size ≤ 4) : Ev (fun k => L8.f k t) (b8 t t.size) := aj8 t ht t.size 0 (by omega)
theorem eR (n : Int) (xs : List Int) (i : Int) (h0 : 0 ≤ i) (h1 : i ≤ 7) (hx : xs.length ≤ 10) {r : ByteArray} (h : Ev (fun k => n8.l0 k n (xs ++ [n / 2 ^ (8 * i).toNat % 256]) (i - 1)) r) :
 Ev (fun k => n8.l0 k n xs i) r := by
 refine Ev.step (fun k => by rw [n8.l0]) ?_
 have e1 : wrap64 (8 * i) = 8 * i := U3 (by omega) (by omega)
 have e2 : wrap64 (i - 1) = i - 1 := U3 (by omega) (by omega)
 have e3 : shr .i64 n (8 * i) = n / 2 ^ (8 * i).toNat := by
  unfold shr
  rw [Nat.min_eq_left (by show (8 * i).toNat ≤ 64; omega)]
 rw [e1, e2, e3]
 exact Ev.yes (by omega) (Ev.yes (by omega) (Ev.yes (by omega) h))
theorem am8 (n : Int) (xs : List Int) : Ev (fun k => n8.l0 k n xs (-1)) (strOfNums xs) := by
 refine Ev.step (fun k => by rw [n8.l0]) ?_
 exact Ev.no (by decide) (Ev.now _)
theorem Fm (n : Int) : Ev (fun k => n8.f k n 2) (strOfNums (two n)) := by
 unfold n8.f
 rw [show wrap64 ((2 : Int) - 1) = 1 from by rw [U3 (by decide) (by decide)]; rfl]
 refine eR n [] 1 (by decide) (by decide) (by simp) ?_
 refine eR n _ 0 (by decide) (by decide) (by simp) ?_
 refine Ev.ok (am8 n _) ?_
 congr 1
 simp [two]
theorem ag6 (n : Int) : Ev (fun k => n8.f k n 4) (strOfNums (four n)) := by
 unfold n8.f
 rw [show wrap64 ((4 : Int) - 1) = 3 from by rw [U3 (by decide) (by decide)]; rfl]
 refine eR n [] 3 (by decide) (by decide) (by simp) ?_
 refine eR n _ 2 (by decide) (by decide) (by simp) ?_
 refine eR n _ 1 (by decide) (by decide) (by simp) ?_
 refine eR n _ 0 (by decide) (by decide) (by simp) ?_
 refine Ev.ok (am8 n _) ?_
 congr 1
 simp [four]
section
variable (f d : Int) (ts : List (List J1)) (hs : Small ts)
include hs
theorem ao6 (i : Nat) (hi : i < ts.length) (hn : Ev (fun k => X4.l0 k (ts.length : Int) ((i : Int) + 1) f d ts) (cF (ts.drop (i + 1)) ((i : Int) + 1))) : ∀ (j q : Nat), q + j = (L0 ts (i : Int)).length →
 Ev (fun k => X4.l1 k (ts.length : Int) (i : Int) (q : Int) f d ts) (if ((L0 ts (i : Int)).drop q).any JE = true then ((i : Int), 151) else if zB (L0 ts (i : Int)) = true then cF (ts.drop (i + 1)) ((i : Int) + 1) else ((i : Int), 160))
 | 0, q, hj => by
  have hl : (L0 ts (i : Int)).length ≤ 1000000000 := hs.2 _ (aN ts i hi)
  refine Ev.step (fun k => by rw [X4.l1]) ?_
  refine Ev.yes (by omega) (Ev.yes (by omega) (Ev.no (by omega) (Ev.bind (Qm _ hl) ?_)))
  rw [List.drop_eq_nil_of_le (by omega), List.any_nil, if_neg (by decide)]
  cases hE : zB (L0 ts (i : Int))
  ·exact Ev.no (by decide) (Ev.ok (Ev.now _) (by rw [if_neg (by decide)]))
  ·refine Ev.yes rfl (Ev.ok ?_ (by rw [if_pos rfl]))
   rw [U3 (by have := hs.1; omega) (by have := hs.1; omega)]
   exact hn
 | j + 1, q, hj => by
  have hl : (L0 ts (i : Int)).length ≤ 1000000000 := hs.2 _ (aN ts i hi)
  refine Ev.step (fun k => by rw [X4.l1]) ?_
  refine Ev.yes (by omega) (Ev.yes (by omega) (Ev.yes (by omega) (Ev.yes (by omega) (Ev.bind (Ev.at 6 (fun k X => an7 (U (L0 ts (i : Int)) (q : Int)) k X)) ?_))))
  rw [cI _ q (by omega), List.any_cons]
  by_cases c : iC (U (L0 ts (i : Int)) (q : Int))
  ·refine Ev.yes (decide_eq_true c) ?_
   have hw : JE (U (L0 ts (i : Int)) (q : Int)) = false := by simp [JE, c]
   rw [hw, Bool.false_or, show wrap64 ((q : Int) + 1) = ((q + 1 : Nat) : Int) from (U3 (by omega) (by omega)).trans (by omega)]
   exact ao6 i hi hn j (q + 1) (by omega)
  ·refine Ev.no (by simp [c]) (Ev.ok (Ev.now _) ?_)
   have hw : JE (U (L0 ts (i : Int)) (q : Int)) = true := by simp [JE, c]
   rw [hw, Bool.true_or, if_pos rfl]
theorem ai1 : ∀ (j i : Nat), i + j = ts.length → Ev (fun k => X4.l0 k (ts.length : Int) (i : Int) f d ts) (cF (ts.drop i) (i : Int))
 | 0, i, hj => by
  refine Ev.step (fun k => by rw [X4.l0]) ?_
  refine Ev.no (by omega) (Ev.ok (Ev.now _) ?_)
  rw [List.drop_eq_nil_of_le (by omega)]
  rfl
 | j + 1, i, hj => by
  refine Ev.step (fun k => by rw [X4.l0]) ?_
  refine Ev.yes (by omega) ?_
  have ih := ai1 j (i + 1) (by omega)
  rw [show ((i + 1 : Nat) : Int) = (i : Int) + 1 by omega] at ih
  refine Ev.ok (ao6 f d ts hs i (by omega) ih _ 0 (Nat.zero_add _)) ?_
  rw [List.drop_zero, sL ts i (by omega), cF]
theorem cr9 (b : Bool) : Ev (fun k => X4.j0 k (ts.length : Int) b f d ts) (if b = true then (0, 160) else cF ts 0) := by
 refine Ev.step (fun k => by rw [X4.j0]) ?_
 cases b
 ·exact Ev.no (by decide) (Ev.ok (ai1 f d ts hs ts.length 0 (by omega)) (by rw [List.drop_zero, if_neg (by decide)]; rfl))
 ·exact Ev.yes rfl (Ev.ok (Ev.now _) (by rw [if_pos rfl]))
theorem ah6 : Ev (fun k => X4.f k f d ts) (BG f d ts) := by
 unfold BG iV X4.f
 have J := cr9 f d ts hs
 by_cases c1 : f = 0
 ·refine Ev.yes c1 ?_
  by_cases c2 : d < 1
  ·exact Ev.yes c2 (Ev.ok (J true) (by simp [c2]))
  refine Ev.no c2 ?_
  by_cases c3 : d > 32767
  ·exact Ev.yes c3 (Ev.ok (J true) (by simp [c3]))
  refine Ev.no c3 ?_
  by_cases c4 : (ts.length : Int) = 0
  ·exact Ev.yes c4 (Ev.ok (J true) (by simp [show ts.length < 1 by omega]))
  refine Ev.no c4 ?_
  by_cases c5 : (ts.length : Int) > 16
  ·exact Ev.yes c5 (Ev.ok (J true) (by simp [show ts.length > 16 by omega]))
  refine Ev.no c5 (Ev.ok (J _) ?_)
  have h1 : decide (f < 0) = false := decide_eq_false (by omega)
  have h2 : decide (f > 1) = false := decide_eq_false (by omega)
  have h3 : decide (ts.length < 1) = false := decide_eq_false (by omega)
  have h4 : decide (ts.length > 16) = false := decide_eq_false (by omega)
  have h5 : decide ((ts.length : Int) > 1) = decide (ts.length > 1) := by congr 1; exact propext ⟨fun h => by omega, fun h => by omega⟩
  rw [h1, h2, h3, h4, h5, decide_eq_false c2, decide_eq_false c3, decide_eq_true c1, Bool.and_true]
  rfl
 ·refine Ev.no c1 ?_
  by_cases c6 : f = 1
  ·refine Ev.yes c6 ?_
   by_cases c2 : d < 1
   ·exact Ev.yes c2 (Ev.ok (J true) (by simp [c2]))
   refine Ev.no c2 ?_
   by_cases c3 : d > 32767
   ·exact Ev.yes c3 (Ev.ok (J true) (by simp [c3]))
   refine Ev.no c3 ?_
   by_cases c4 : (ts.length : Int) = 0
   ·exact Ev.yes c4 (Ev.ok (J true) (by simp [show ts.length < 1 by omega]))
   refine Ev.no c4 ?_
   by_cases c5 : (ts.length : Int) > 16
   ·exact Ev.yes c5 (Ev.ok (J true) (by simp [show ts.length > 16 by omega]))
   refine Ev.no c5 (Ev.ok (J _) ?_)
   have h1 : decide (f < 0) = false := decide_eq_false (by omega)
   have h2 : decide (f > 1) = false := decide_eq_false (by omega)
   have h3 : decide (ts.length < 1) = false := decide_eq_false (by omega)
   have h4 : decide (ts.length > 16) = false := decide_eq_false (by omega)
   rw [h1, h2, h3, h4, decide_eq_false c2, decide_eq_false c3, decide_eq_false c1, Bool.and_false]
   rfl
  ·refine Ev.no c6 (Ev.ok (J true) ?_)
   by_cases c7 : f < 0
   ·simp [c7]
   ·have : f > 1 := by omega
    simp [this]
end
theorem ah3 (f d : Int) (ts : List (List J1)) (hl : ts.length ≤ 1000000000) (hr : ∀ l ∈ ts, zA l ∧ P9 l ≤ 1000000000) : ∀ (j i : Nat) (o : List Int), i + j = ts.length → o.length + lD (ts.drop i) ≤ 2000000000 →
 Ev (fun k => M9.l0 k (strOfNums o) (i : Int) f d ts) (fin (o ++ hJ (ts.drop i)))
 | 0, i, o, hj, ho => by
  refine Ev.step (fun k => by rw [M9.l0]) ?_
  refine Ev.no (by omega) ?_
  rw [List.drop_eq_nil_of_le (by omega), hJ, List.append_nil, P_]
  unfold fin
  by_cases c : (o.length : Int) > 100000
  ·exact Ev.yes c (Ev.ok (Ev.now _) (by rw [if_pos c]))
  ·exact Ev.no c (Ev.ok (Ev.now _) (by rw [if_neg c]))
 | j + 1, i, o, hj, ho => by
  obtain ⟨h1, h2⟩ := hr _ (aN ts i (by omega))
  rw [sL ts i (by omega), lD] at ho
  have hen := eZ (L0 ts (i : Int)) 0
  have h4 : (four ((enc 0 (L0 ts (i : Int))).length : Int)).length = 4 := rfl
  refine Ev.step (fun k => by rw [M9.l0]) ?_
  refine Ev.yes (by omega) (Ev.yes (by omega) (Ev.bind (cm2 h1 h2) ?_))
  dsimp only
  have em : (⟨#[77, 84, 114, 107]⟩ : ByteArray) = strOfNums xG := rfl
  rw [em, P_, P_, ← kN]
  refine Ev.yes (by omega) (Ev.bind (ag6 _) ?_)
  rw [← kN, ← kN, P_, P_, P_]
  have h3 : xG.length = 4 := rfl
  refine Ev.yes (by simp only [List.length_append]; omega) (Ev.yes (by simp only [List.length_append]; omega) ?_)
  rw [show wrap64 ((i : Int) + 1) = ((i + 1 : Nat) : Int) from (U3 (by omega) (by omega)).trans (by omega)]
  have ih := ah3 f d ts hl hr j (i + 1) (((o ++ xG) ++ four ((enc 0 (L0 ts (i : Int))).length : Int)) ++ enc 0 (L0 ts (i : Int))) (by omega) (by simp only [List.length_append]; omega)
  refine Ev.ok ih ?_
  rw [sL ts i (by omega), hJ]
  unfold RM
  simp only [List.append_assoc]
theorem cv2 (f d : Int) (ts : List (List J1)) (hs : Small ts) (ht : lD ts ≤ 1000000000) :
 Ev (fun k => M9.f k f d ts) (if (BG f d ts).2 = 0 then fin (SJ f d ts) else (⟨#[]⟩, (BG f d ts).2)) := by
 refine Ev.bind (ah6 f d ts hs) ?_
 by_cases c : (BG f d ts).2 = 0
 ·rw [if_pos c]
  have hr : ∀ l ∈ ts, zA l ∧ zB l = true := by
   have h2 : (cF ts 0).2 = 0 := by
    unfold BG at c
    split at c
    ·cases c
    ·exact c
   exact Qk h2
  refine Ev.yes c (Ev.bind (ag6 6) ?_)
  have em : (⟨#[77, 84, 104, 100]⟩ : ByteArray) = strOfNums [77, 84, 104, 100] := rfl
  rw [em, P_]
  refine Ev.yes (by show (4 + 4 : Nat) ≤ _; decide) (Ev.bind (Fm _) ?_)
  rw [← kN, P_, P_]
  refine Ev.yes (by show (8 + 2 : Nat) ≤ _; decide) (Ev.bind (Fm _) ?_)
  rw [← kN, P_, P_]
  refine Ev.yes (by show (10 + 2 : Nat) ≤ _; decide) (Ev.bind (Fm _) ?_)
  rw [← kN, P_, P_]
  refine Ev.yes (by show (12 + 2 : Nat) ≤ _; decide) ?_
  rw [← kN]
  exact ah3 f d ts hs.1 (fun l hl => ⟨(hr l hl).1, Nat.le_trans (LZ hl) ht⟩) ts.length 0 _ (by omega) (by rw [List.drop_zero]; show 14 + lD ts ≤ 2000000000; omega)
 ·rw [if_neg c]
  exact Ev.no c (Ev.now _)
end Go.Proofs.Ytdmnknhlibaaoaa.Z
namespace Go.Proofs.Ytdmnknhlibaaoaa.Z
open Go.RowKit Go.Proofs.YtdmnknhlibaaoaaW.PrintWords Go.Proofs.YtdmnknhlibaaoaaW.PrintLast Go.Proofs.YtdmnknhlibaaoaaW.PrintMore Go.Proofs.Ytdmnknhlibaaoaa.M
set_option linter.unusedVariables false
inductive SM : Nat → List Int → Except (Nat × Int) (List (List J1) × List Int) → Prop
 | done (r : List Int) : SM 0 r (.ok ([], r))
 | err {n : Nat} {r : List Int} {x : Nat × Int} : UJ r (.error x) → SM (n + 1) r (.error x)
 | skip {n : Nat} {r r' : List Int} {o : Except (Nat × Int) (List (List J1) × List Int)} : UJ r (.ok ([], r')) → SM (n + 1) r' o → SM (n + 1) r o
 | take {n : Nat} {r r' z : List Int} {l : List J1} {ts : List (List J1)} : UJ r (.ok (l, r')) → l ≠ [] → SM n r' (.ok (ts, z)) → SM (n + 1) r (.ok (l :: ts, z))
 | takeErr {n : Nat} {r r' : List Int} {l : List J1} {x : Nat × Int} : UJ r (.ok (l, r')) → l ≠ [] → SM n r' (.error x) → SM (n + 1) r (.error x)
theorem Km {s : ByteArray} (h : (s.size : Int) > 100000) : Ev (fun k => I8.f k s) (0, 0, [], 0, 160) := ⟨0, fun k _ => by
 show I8.f k s = _
 unfold I8.f
 rw [if_pos h]⟩
theorem cz8 {s : ByteArray} (hs : s.size ≤ 100000) {a c : Int} (h : kC s 14 0 = some (a, c)) : Ev (fun k => I8.f k s) (0, 0, [], a, c) := ⟨0, fun k _ => by
 show I8.f k s = _
 unfold I8.f
 rw [if_neg (by omega), h]⟩
def cz6 (f d : Int) (n : Nat) : Prop := (f = 0 ∨ f = 1) ∧ 1 ≤ d ∧ d ≤ 32767 ∧ 1 ≤ n ∧ n ≤ 16 ∧ (f = 0 → n = 1)
end Go.Proofs.Ytdmnknhlibaaoaa.Z
namespace Go.Proofs.Ytdmnknhlibaaoaa.Z
open Go.RowKit Go.Proofs.YtdmnknhlibaaoaaW.PrintWords Go.Proofs.YtdmnknhlibaaoaaW.PrintLast Go.Proofs.Ytdmnknhlibaaoaa.M
set_option linter.unusedVariables false
set_option linter.unusedSimpArgs false
section
variable {s : ByteArray} {r : List Int} {last : Int} {k : Nat}
theorem al4 {e : Int} (h : AB 4 0 r = .error e) : dH s r 4 0 = (0, 0, e) := by unfold dH; rw [h]
theorem aq7 {m : Int} {r' : List Int} (h : AB 4 0 r = .ok (m, r')) : dH s r 4 0 = (m, pos s r', 0) := by unfold dH; rw [h]; rfl
theorem Ol (hs : s.size ≤ 140737488351232) (h : i8 s r) : QF.f s (pos s r) = some (match low r with
 | .error e => (0, e)
 | .ok (a, _) => (a, 0)) := by
 unfold QF.f
 cases r with
 | nil => rw [uR, if_pos (by omega)]; rfl
 | cons c r =>
  have hp := wR (s := s) (c := c) (r := r)
  have FG := SH h
  have hc := h.bytes.head
  rw [if_neg (by omega), if_pos FG, if_pos hp, yV h]
  by_cases c1 : c ≥ 128
  ·rw [if_pos c1, low, if_pos c1]
  ·rw [if_neg c1, low, if_neg c1, U3 (by omega) (by omega)]
theorem ae6 (X : 7 ≤ k) (hs : s.size ≤ 140737488351232) (h : i8 s r) : AG.f k s (pos s r) = some (match xD r with
 | .error e => (⟨#[]⟩, 0, e)
 | .ok (bs, r') => (strOfNums bs, pos s r', 0)) := by
 unfold AG.f
 rw [an0 s _ k X (SH h) (pR s r) hs, tR h]
 unfold xD
 cases hv : AB 4 0 r with
 | error e =>
  rw [al4 hv, Option.bind_some]
  dsimp only
  have he : e ≠ 0 := by rcases fP hv with rfl | rfl <;> decide
  rw [if_neg he]
 | ok x =>
  obtain ⟨n, r1⟩ := x
  obtain ⟨h0, h1, _⟩ := MZ h.bytes hv
  have h2 := rZ h hv
  have FG := SH h2
  have Ey := pR s r1
  rw [aq7 hv, Option.bind_some]
  dsimp only
  rw [if_pos rfl]
  have dk9 : pos s r1 = (s.size : Int) - r1.length := rfl
  by_cases c1 : n > 100000
  ·rw [if_pos c1, if_pos c1]
  ·rw [if_neg c1, if_neg c1, U3 (by omega) (by omega)]
   by_cases c2 : n > r1.length
   ·rw [if_pos c2, if_pos (by omega)]
   ·rw [if_neg c2, if_neg (by omega), if_pos (by omega), if_pos (by omega), if_pos (by omega)]
    dsimp only
    have e1 : s.extract (pos s r1).toNat (pos s r1 + n).toNat = strOfNums (r1.take n.toNat) := by
     apply at3
     rw [Uk, tR h2, lN (h2.bytes.take _)]
     congr 1
     omega
    have e2 : pos s r1 + n = pos s (r1.drop n.toNat) := by
     unfold pos
     rw [List.length_drop]
     omega
    rw [e1, e2]
def Yl (x : Except Int (J1 × Int × List Int)) (s : ByteArray) (o : Option (Int × Int × Int × Int × Int × ByteArray × Int × Int × Int)) : Prop :=
 match x with
 | .error e => e ≠ 0 ∧ ∃ t, o = some t ∧ t.2.2.2.2.2.2.2.2 = e
 | .ok (m, l', r') => o = some (m.f0, m.f1, m.f2, m.f3, m.f4, m.f5, l', pos s r', 0)
theorem as4 {d c : Int} (X : 8 ≤ k) (hs : s.size ≤ 140737488351232) (h : i8 s r) (h1 : 128 ≤ c) (h2 : c ≤ 255) : Yl (body d c r) s (Z6.j1 k s (pos s r) c d 0 0 0 0 (⟨#[]⟩ : ByteArray)) := by
 obtain ⟨k, rfl⟩ : ∃ m, k = m + 1 := ⟨k - 1, by omega⟩
 have FG := SH h
 have Ey := pR s r
 have sY : ∀ {a : Int} {r1 : List Int}, low r = .ok (a, r1) → wrap64 (pos s r + 1) = pos s r1 := by
  intro a r1 hl
  obtain ⟨rfl, _⟩ := sP hl
  rw [U3 (by omega) (by omega), ← kP]
 simp only [Z6.j1]
 by_cases c1 : c = 255
 ·subst c1
  rw [if_neg (by decide), if_pos rfl, Dn]
  unfold zG.f
  rw [if_pos rfl, Ol hs h, Option.bind_some]
  cases hl : low r with
  | error e =>
   dsimp only
   have he : e ≠ 0 := by rcases lR hl with rfl | rfl <;> decide
   rw [if_neg he]
   exact ⟨he, _, rfl, rfl⟩
  | ok x =>
   obtain ⟨a, r1⟩ := x
   dsimp only
   rw [if_pos rfl, sY hl, ae6 (by omega) hs (mR h hl), Option.bind_some]
   cases hd : xD r1 with
   | error e => exact ⟨TY, _, rfl, rfl⟩
   | ok y => obtain ⟨bs, r2⟩ := y; exact rfl
 ·by_cases c2 : c ≥ 240
  ·rw [if_neg (by omega), if_neg c1, Vk c1 c2]
   unfold zG.f
   rw [if_neg (by decide), ae6 (by omega) hs h, Option.bind_some]
   cases hd : xD r with
   | error e => exact ⟨TY, _, rfl, rfl⟩
   | ok y => obtain ⟨bs, r2⟩ := y; exact rfl
  ·rw [if_pos (by omega), Mm (by omega)]
   have e1 : wrap64 (Int.tdiv c 16) = c / 16 := by rw [Int.tdiv_eq_ediv_of_nonneg (by omega)]; exact U3 (by omega) (by omega)
   have e2 : Int.tmod c 16 = c % 16 := Int.tmod_eq_emod_of_nonneg (by omega)
   unfold cR.f
   rw [e1, e2, Ol hs h, Option.bind_some]
   cases hl : low r with
   | error e =>
    dsimp only
    have he : e ≠ 0 := by rcases lR hl with rfl | rfl <;> decide
    rw [if_neg he]
    exact ⟨he, _, rfl, rfl⟩
   | ok x =>
    obtain ⟨a, r1⟩ := x
    dsimp only
    have h3 := mR h hl
    rw [if_pos rfl]
    by_cases c3 : c / 16 = 12 ∨ c / 16 = 13
    ·rw [if_pos c3]
     by_cases c4 : c / 16 = 12
     ·rw [if_pos c4, sY hl]; exact rfl
     ·rw [if_neg c4, if_pos (by omega), sY hl]; exact rfl
    ·rw [if_neg c3, if_neg (by omega), if_neg (by omega), sY hl, Ol hs h3, Option.bind_some]
     cases RC : low r1 with
     | error e => exact ⟨by rcases lR RC with rfl | rfl <;> decide, _, rfl, rfl⟩
     | ok y =>
      obtain ⟨b, r2⟩ := y
      have e3 : wrap64 (pos s r + 2) = pos s r2 := by
       obtain ⟨rfl, _⟩ := sP hl
       obtain ⟨rfl, _⟩ := sP RC
       have q1 := kP (s := s) (c := b) (r := r2)
       have q2 := kP (s := s) (c := a) (r := b :: r2)
       rw [U3 (by omega) (by omega)]
       omega
      dsimp only
      rw [e3]
      exact rfl
theorem Bl (X : 10 ≤ k) (hs : s.size ≤ 140737488351232) (h : i8 s r) (hl : RH last) : Yl (msg last r) s (Z6.f k s (pos s r) last) := by
 unfold Z6.f
 rw [an0 s _ k (by omega) (SH h) (pR s r) hs, tR h]
 cases hv : AB 4 0 r with
 | error e =>
  have he : e ≠ 0 := by rcases fP hv with rfl | rfl <;> decide
  unfold msg
  rw [al4 hv, hv, Option.bind_some]
  dsimp only
  rw [if_neg he]
  exact ⟨he, _, rfl, rfl⟩
 | ok x =>
  obtain ⟨d, r1⟩ := x
  have h2 := rZ h hv
  rw [aq7 hv, Option.bind_some]
  dsimp only
  rw [if_pos rfl]
  cases r1 with
  | nil =>
   unfold msg
   rw [hv, uR, if_pos rfl]
   exact ⟨by decide, _, rfl, rfl⟩
  | cons c r1 =>
   obtain ⟨k, rfl⟩ : ∃ m, k = m + 1 := ⟨k - 1, by omega⟩
   have hp := wR (s := s) (c := c) (r := r1)
   have FG := SH h2
   have hc := h2.bytes.head
   rw [In hv, if_neg (show ¬ pos s (c :: r1) = (s.size : Int) by omega), if_pos FG, if_pos hp, yV h2, U3 (x := c) (by omega) (by omega)]
   by_cases c1 : c < 128
   ·rw [if_pos c1, if_pos c1]
    by_cases c2 : last = 0
    ·rw [if_pos c2, if_pos c2]
     simp only [Z6.j0]
     exact ⟨by decide, _, rfl, rfl⟩
    ·rw [if_neg c2, if_neg c2, if_neg (by omega)]
     simp only [Z6.j0]
     rw [if_neg (by decide), if_pos c1]
     have RC : 128 ≤ last ∧ last < 240 := by rcases hl with hl | hl <;> omega
     exact as4 (by omega) hs h2 RC.1 (by omega)
   ·have hw : wrap64 (pos s (c :: r1) + 1) = pos s r1 := by rw [U3 (by omega) (by omega), ← kP]
    rw [if_neg c1, if_neg c1]
    by_cases c2 : c > 240 ∧ c ≠ 247 ∧ c ≠ 255
    ·rw [if_pos c2, if_pos c2.1, if_neg c2.2.1]
     simp only [Z6.j0]
     rw [if_pos (by rw [bne_iff_ne]; exact c2.2.2)]
     exact ⟨by decide, _, rfl, rfl⟩
    ·rw [if_neg c2]
     have Yh : Yl (body d c r1) s (Z6.j0 (k + 1) s last (pos s (c :: r1)) c false d 0 0 0 0 ⟨#[]⟩) := by
      simp only [Z6.j0]
      rw [if_neg (by decide), if_neg c1, hw]
      exact as4 (by omega) hs h2.tail (by omega) hc.2
     by_cases c3 : c > 240
     ·rw [if_pos c3]
      by_cases c4 : c = 247
      ·rw [if_pos c4]; exact Yh
      ·rw [if_neg c4]
       have c5 : c = 255 := by omega
       have : (c != 255) = false := by rw [c5]; rfl
       rw [this]; exact Yh
     ·rw [if_neg c3]; exact Yh
end
theorem aj3 {s : ByteArray} (hs : s.size ≤ 1000000000) : ∀ {l : Int} {r : List Int} {ms : List J1}, eJ l r ms → RH l → i8 s r → ∀ (out : List J1) (k : Nat), out.length + r.length ≤ 1000000000 → ms.length + 12 < k →
 i9.l0 k s out (pos s r) l = some (out ++ ms, 0, 0)
 | l, _, _, .nil _, hl, h, out, k, _, X => by
  obtain ⟨k, rfl⟩ : ∃ m, k = m + 1 := ⟨k - 1, by omega⟩
  simp only [i9.l0]
  rw [uR, if_neg (by omega), List.append_nil]
 | l, r, _, .cons (m := m) (ms := ms) (r' := r') (l' := l') hm hd, hl, h, out, k, ho, X => by
  rw [List.length_cons] at X
  obtain ⟨k, rfl⟩ : ∃ m, k = m + 1 := ⟨k - 1, by omega⟩
  have ht := Bl (k := k) (by omega) (by omega) h hl
  rw [hm] at ht
  have h2 : Z6.f k s (pos s r) l = some (m.f0, m.f1, m.f2, m.f3, m.f4, m.f5, l', pos s r', 0) := ht
  obtain ⟨k1, rfl, p, hp, k3, k4⟩ := iP hl h.bytes hm
  have h1 : i8 s r' := by rw [hp] at h; exact h.of
  have hlen : r.length = p.length + r'.length := by rw [hp, List.length_append]
  have l4 : pos s r < s.size := by unfold pos; omega
  simp only [i9.l0]
  rw [if_pos l4, h2, Option.bind_some]
  dsimp only
  rw [if_pos rfl, if_pos (by omega)]
  have ih := aj3 hs hd (eP k1) h1 (out ++ [m]) k XQ (by omega)
  rw [List.append_assoc] at ih
  exact ih
theorem cn6 {s : ByteArray} (hs : s.size ≤ 1000000000) {l e : Int} {r : List Int} {n : Nat} (hd : WJ l r e n) : RH l → i8 s r → ∀ (out : List J1), out.length + r.length ≤ 1000000000 →
 ∃ K, ∀ k, K ≤ k → i9.l0 k s out (pos s r) l = some ([], (s.size : Int) - (n : Int), e) := by
 induction hd with
 | @here l e r J8 hm =>
  intro hl h out _
  refine ⟨12, fun k X => ?_⟩
  obtain ⟨k, rfl⟩ : ∃ m, k = m + 1 := ⟨k - 1, by omega⟩
  have ht := Bl (k := k) (by omega) (by omega) h hl
  rw [hm] at ht
  obtain ⟨he, t, h1, h2⟩ := ht
  have l4 : pos s r < s.size := by
   have := List.length_pos_iff.2 J8
   unfold pos; omega
  simp only [i9.l0]
  rw [if_pos l4, h1, Option.bind_some, h2, if_neg he]
  rfl
 | @later l l' e r r' m n hm _ ih =>
  intro hl h out ho
  obtain ⟨k1, rfl, p, hp, k3, k4⟩ := iP hl h.bytes hm
  have hlen : r.length = p.length + r'.length := by rw [hp, List.length_append]
  have Zf : i8 s r' := by rw [hp] at h; exact h.of
  obtain ⟨K, hK⟩ := ih (eP k1) Zf (out ++ [m]) XQ
  refine ⟨K + 12, fun k X => ?_⟩
  obtain ⟨k, rfl⟩ : ∃ m, k = m + 1 := ⟨k - 1, by omega⟩
  have ht := Bl (k := k) (by omega) (by omega) h hl
  rw [hm] at ht
  have h2 : Z6.f k s (pos s r) l = some (m.f0, m.f1, m.f2, m.f3, m.f4, m.f5, cE m, pos s r', 0) := ht
  have l4 : pos s r < s.size := by unfold pos; omega
  simp only [i9.l0]
  rw [if_pos l4, h2, Option.bind_some]
  dsimp only
  rw [if_pos rfl, if_pos (by omega)]
  exact hK k (by omega)
theorem cr4 {s : ByteArray} (hs : s.size ≤ 1000000000) {ms : List J1} (h : eJ 0 (bytesOf s) ms) : Ev (fun k => i9.f k s) (ms, 0, 0) := by
 refine ⟨ms.length + 13, fun k X => ?_⟩
 have h1 := aj3 hs h (.inl rfl) (i8.all s) [] k VY (by omega)
 rw [OY] at h1
 exact h1
theorem cq6 {s : ByteArray} (hs : s.size ≤ 1000000000) {e : Int} {n : Nat} (h : WJ 0 (bytesOf s) e n) : Ev (fun k => i9.f k s) ([], (s.size : Int) - (n : Int), e) := by
 obtain ⟨K, hK⟩ := cn6 hs h (.inl rfl) (i8.all s) [] VY
 refine ⟨K, fun k X => ?_⟩
 have h1 := hK k X
 rw [OY] at h1
 exact h1
end Go.Proofs.Ytdmnknhlibaaoaa.Z
namespace Go.Proofs.Ytdmnknhlibaaoaa.Z
open Go.RowKit Go.Proofs.YtdmnknhlibaaoaaW.PrintWords Go.Proofs.YtdmnknhlibaaoaaW.PrintLast Go.Proofs.YtdmnknhlibaaoaaW.PrintMore Go.Proofs.Ytdmnknhlibaaoaa.M
set_option linter.unusedVariables false
abbrev RJ : ByteArray := ⟨#[77, 84, 104, 100, 0, 0, 0, 6]⟩
def CZ : Option (Int × Int) → Int × Int
 | some x => x
 | none => (0, 0)
theorem ct9 (s : ByteArray) {i : Nat} (h : i < 8) : WC s i = (bt s (i : Int) == bt RJ (i : Int)) := by
 rcases (show i = 0 ∨ i = 1 ∨ i = 2 ∨ i = 3 ∨ i = 4 ∨ i = 5 ∨ i = 6 ∨ i = 7 by omega) with rfl | rfl | rfl | rfl | rfl | rfl | rfl | rfl <;> rfl
section
variable {s : ByteArray} {r : Int × Int} {i : Nat}
theorem cw7 (hs : s.size ≤ 1000000000) (h8 : i < 8) (hl : (i : Int) < s.size) (h : Ev (fun k => J5.l0 k s RJ ((i + 1 : Nat) : Int)) r) :
 Ev (fun k => J5.l0 k s RJ (i : Int)) (if WC s i = true then r else ((i : Int), 160)) := by
 refine Ev.step (fun k => by rw [J5.l0]) ?_
 have hn : (RJ.size : Int) = 8 := rfl
 have e1 : wrap64 ((i : Int) + 1) = ((i + 1 : Nat) : Int) := (U3 (by omega) (by omega)).trans (by omega)
 refine Ev.yes (by omega) (Ev.no (by omega) (Ev.yes (by omega) (Ev.yes (by omega) (Ev.yes (by omega) (Ev.yes (by omega) ?_)))))
 rw [ct9 s h8, e1]
 by_cases c : bt s (i : Int) = bt RJ (i : Int)
 ·exact Ev.yes c (Ev.ok h (by rw [if_pos (beq_iff_eq.mpr c)]))
 ·exact Ev.no c (Ev.ok (Ev.now _) (by rw [if_neg (by rw [beq_iff_eq]; exact c)]))
theorem cq3 (hs : s.size ≤ 1000000000) (h8 : ¬ i < 8) (h14 : i < 14) (hl : (i : Int) < s.size) {o : Int × Int} (h : Ev (fun k => J5.j1 k s RJ (i : Int) (bt s (i : Int)) true (decide (i = 8 ∨ i = 10))) o) :
 Ev (fun k => J5.l0 k s RJ (i : Int)) o := by
 refine Ev.step (fun k => by rw [J5.l0]) ?_
 refine Ev.yes (by omega) (Ev.no (by omega) (Ev.yes (by omega) (Ev.yes (by omega) (Ev.no (by omega) ?_))))
 by_cases c : i = 8
 ·refine Ev.yes (by omega) (Ev.ok h rfl |> fun h => ?_)
  rw [decide_eq_true (Or.inl c)] at h
  exact h
 ·refine Ev.no (by omega) ?_
  have e : ((i : Int) == 10) = decide (i = 8 ∨ i = 10) := by
   rw [Bool.eq_iff_iff, beq_iff_eq, decide_eq_true_eq]
   omega
  rw [e]
  exact h
theorem cu3 (hs : s.size ≤ 1000000000) (h8 : ¬ i < 8) (h14 : i < 14) (hl : (i : Int) < s.size) (h : Ev (fun k => J5.l0 k s RJ ((i + 1 : Nat) : Int)) r) :
 Ev (fun k => J5.j1 k s RJ (i : Int) (bt s (i : Int)) true (decide (i = 8 ∨ i = 10))) (if WC s i = true then r else ((i : Int), 160)) := by
 have e1 : wrap64 ((i : Int) + 1) = ((i + 1 : Nat) : Int) := (U3 (by omega) (by omega)).trans (by omega)
 have hy : ∀ {b : Bool}, b = true → r = (if b = true then r else ((i : Int), 160)) := fun G => by rw [if_pos G]
 have hn : ∀ {b : Bool}, b = false → ((i : Int), (160 : Int)) = (if b = true then r else ((i : Int), 160)) := fun G => by rw [G, if_neg (by decide)]
 have G := aD s (i : Int)
 refine Ev.step (fun k => by rw [J5.j1]) ?_
 rw [e1]
 rcases (show i = 8 ∨ i = 9 ∨ i = 10 ∨ i = 11 ∨ i = 12 ∨ i = 13 by omega) with rfl | rfl | rfl | rfl | rfl | rfl
 ·refine Ev.yes (by decide) ?_
  by_cases c : bt s ((8 : Nat) : Int) = 0
  ·exact Ev.yes c (Ev.ok h (hy (beq_iff_eq.mpr c)))
  ·exact Ev.no c (Ev.ok (Ev.now _) (hn (beq_eq_false_iff_ne.mpr c)))
 ·refine Ev.no (by decide) (Ev.yes (by decide) ?_)
  by_cases c : bt s ((9 : Nat) : Int) ≤ 1
  ·exact Ev.yes c (Ev.ok h (hy (decide_eq_true c)))
  ·exact Ev.no c (Ev.ok (Ev.now _) (hn (decide_eq_false c)))
 ·refine Ev.yes (by decide) ?_
  by_cases c : bt s ((10 : Nat) : Int) = 0
  ·exact Ev.yes c (Ev.ok h (hy (beq_iff_eq.mpr c)))
  ·exact Ev.no c (Ev.ok (Ev.now _) (hn (beq_eq_false_iff_ne.mpr c)))
 ·refine Ev.no (by decide) (Ev.no (by decide) (Ev.yes (by decide) ?_))
  have e : WC s 11 = ZG (bt s ((11 : Nat) : Int)) (bt s 9) := rfl
  rw [e]
  by_cases c1 : bt s ((11 : Nat) : Int) ≥ 1
  ·refine Ev.yes c1 ?_
   by_cases c2 : bt s ((11 : Nat) : Int) ≤ 16
   ·refine Ev.yes c2 (Ev.yes (by omega) ?_)
    by_cases c3 : bt s 9 = 1
    ·refine Ev.yes c3 (Ev.ok h (hy ?_))
     unfold ZG
     rw [decide_eq_true c3, decide_eq_true c2, decide_eq_true (show bt s ((11 : Nat) : Int) > 0 by omega)]
     simp
    ·refine Ev.no c3 ?_
     by_cases c4 : bt s ((11 : Nat) : Int) = 1
     ·exact Ev.yes c4 (Ev.ok h (hy (by unfold ZG; rw [decide_eq_true c4]; rfl)))
     ·exact Ev.no c4 (Ev.ok (Ev.now _) (hn (by unfold ZG; rw [decide_eq_false c4, decide_eq_false c3]; rfl)))
   ·refine Ev.no c2 (Ev.ok (Ev.now _) (hn ?_))
    unfold ZG
    rw [decide_eq_false c2, decide_eq_false (show ¬ bt s ((11 : Nat) : Int) = 1 by omega)]
    simp
  ·refine Ev.no c1 (Ev.ok (Ev.now _) (hn ?_))
   unfold ZG
   rw [decide_eq_false (show ¬ bt s ((11 : Nat) : Int) > 0 by omega), decide_eq_false (show ¬ bt s ((11 : Nat) : Int) = 1 by omega)]
   simp
 ·refine Ev.no (by decide) (Ev.no (by decide) (Ev.no (by decide) (Ev.yes (by decide) ?_)))
  by_cases c : bt s ((12 : Nat) : Int) < 128
  ·exact Ev.yes c (Ev.ok h (hy (decide_eq_true c)))
  ·exact Ev.no c (Ev.ok (Ev.now _) (hn (decide_eq_false c)))
 ·refine Ev.no (by decide) (Ev.no (by decide) (Ev.no (by decide) (Ev.no (by decide) (Ev.yes (by decide) ?_))))
  have e : WC s 13 = (decide (bt s 13 > 0) || decide (bt s 12 > 0)) := rfl
  have e13 : bt s ((13 : Nat) : Int) = bt s 13 := rfl
  have h12 := aD s 12
  have h13 := aD s 13
  rw [e, e13] at *
  by_cases c : bt s 13 = 0
  ·refine Ev.yes c (Ev.yes (by omega) ?_)
   by_cases c2 : bt s 12 = 0
   ·exact Ev.no (by simp [c2]) (Ev.ok (Ev.now _) (hn (by simp [c, c2])))
   ·exact Ev.yes c2 (Ev.ok h (hy (by rw [decide_eq_true (show bt s 12 > 0 by omega), Bool.or_true])))
  ·exact Ev.no c (Ev.ok h (hy (by rw [decide_eq_true (show bt s 13 > 0 by omega), Bool.true_or])))
end
theorem ao7 {s : ByteArray} (hs : s.size ≤ 1000000000) : ∀ (j i : Nat), i + j = 14 → Ev (fun k => J5.l0 k s RJ (i : Int)) (CZ (kC s j i))
 | 0, i, hj => by
  refine Ev.step (fun k => by rw [J5.l0]) ?_
  exact Ev.no (by omega) (Ev.now _)
 | j + 1, i, hj => by
  by_cases hl : (i : Int) < s.size
  ·have ih := ao7 hs j (i + 1) (by omega)
   have e : CZ (kC s (j + 1) i) = (if WC s i = true then CZ (kC s j (i + 1)) else ((i : Int), 160)) := by
    rw [kC, if_pos hl]
    by_cases c : WC s i = true
    ·rw [if_pos c, if_pos c]
    ·rw [if_neg c, if_neg c]
     rfl
   rw [e]
   by_cases h8 : i < 8
   ·exact cw7 hs h8 hl ih
   ·exact cq3 hs h8 (by omega) hl (cu3 hs h8 (by omega) hl ih)
  ·refine Ev.step (fun k => by rw [J5.l0]) ?_
   refine Ev.yes (by omega) (Ev.yes (by omega) (Ev.ok (Ev.now _) ?_))
   rw [kC, if_neg hl]
   rfl
theorem ap1 {s : ByteArray} (hs : s.size ≤ 1000000000) : Ev (fun k => J5.f k s) (CZ (kC s 14 0)) := ao7 hs 14 0 (by omega)
theorem da7 {t : ByteArray} (ht : t.size ≤ 1000000000) : ∃ (l : List J1) (q c : Int), Ev (fun k => M_.f k t) (l, q, c) ∧ Ev (fun k => i9.f k t) (l, q, c) ∧ (0 ≤ q ∧ q ≤ t.size) ∧ l.length ≤ 1000000000 := by
 have WV := pH t
 rcases ak4 (bytesOf t).length 0 (bytesOf t) (.inl rfl) (ZO t) (Nat.le_refl _) with ⟨ms, hd⟩ | ⟨e, n, hd⟩
 ·have hlen := (ar3 (.inl rfl) (ZO t) hd).2.2
  exact ⟨_, _, _, cx4 (by omega) hd, cr4 (by omega) hd, ⟨by decide, by omega⟩, by omega⟩
 ·have G := cx9 hd (.inl rfl) (ZO t)
  exact ⟨_, _, _, cm1 (by omega) hd, cq6 (by omega) hd, ⟨by omega, by omega⟩, by simp⟩
def bZ (s : ByteArray) (f d : Int) : Except (Int × Int) (List (List J1) × Int) → Int × Int × List (List J1) × Int × Int
 | .error (a, c) => (0, 0, [], a, c)
 | .ok (ts, p) => if p < (s.size : Int) then (0, 0, [], p, 160) else (f, d, ts, 0, 0)
theorem ap7 {s : ByteArray} {a b : Int} (h0 : 0 ≤ a) (h1 : a ≤ b) (h2 : b ≤ s.size) : (s.extract a.toNat b.toNat).size = (b - a).toNat := by
 rw [ByteArray.size_extract]
 omega
def cq5 (s : ByteArray) (N : Int) (acc : List (List J1)) (k m : Nat) : Except (Int × Int) (List J1 × Int) → Option (Except (Int × Int) (List (List J1) × Int))
 | .error x => some (.error x)
 | .ok (l, q) => if l.length = 0 then fC k s N m q acc else if acc.length < 5864062014805 then fC k s N m q (acc ++ [l]) else none
theorem Ql {s : ByteArray} (hs : s.size ≤ 100000) (N f d : Int) (hN : N = bt s 11) (h11 : 11 < (s.size : Int)) : ∀ (n : Nat) (p : Int) (acc : List (List J1)), (s.size : Int) - p ≤ n → 0 ≤ p → p ≤ s.size → acc.length ≤ 255 → (∀ l ∈ acc, l.length ≤ 1000000000) →
 ∃ o, (∃ K, ∀ k, K ≤ k → ∀ m, K ≤ m → fC k s N m p acc = some o) ∧ Ev (fun k => p5.l0 k s p f d acc) (bZ s f d o) ∧ (match o with | .ok (ts, q) => ts.length ≤ 255 ∧ (∀ l ∈ ts, l.length ≤ 1000000000) | .error _ => True)
 | n, p, acc, hn, FG, hp1, ha, hm => by
  have G := aD s 11
  have e8 : wrap64 (p + 8) = p + 8 := U3 (by omega) (by omega)
  have e4 : wrap64 (p + 4) = p + 4 := U3 (by omega) (by omega)
  have Pa : wrap64 (bt s 11) = bt s 11 := U3 (by omega) (by omega)
  by_cases l4 : (acc.length : Int) < N
  case neg =>
   refine ⟨.ok (acc, p), ⟨1, fun k X m hm => ?_⟩, ?_, ha, hm⟩
   ·obtain ⟨m, rfl⟩ : ∃ q, m = q + 1 := ⟨m - 1, by omega⟩
    rw [fC, if_neg l4]
   ·refine Ev.step (fun k => by rw [p5.l0]) ?_
    rw [Pa]
    refine Ev.yes h11 (Ev.no (by omega) ?_)
    by_cases c : p < (s.size : Int)
    ·exact Ev.yes c (Ev.ok (Ev.now _) (by show _ = (if p < (s.size : Int) then _ else _); rw [if_pos c]))
    ·exact Ev.no c (Ev.ok (Ev.now _) (by show _ = (if p < (s.size : Int) then _ else _); rw [if_neg c]))
  have mQ : ∀ (o : Except (Int × Int) (List J1 × Int)), (∃ K, ∀ k, K ≤ k → jF k s p = some o) → ∀ {r : Except (Int × Int) (List (List J1) × Int)},
   (∃ K, ∀ k, K ≤ k → ∀ m, K ≤ m → cq5 s N acc k m o = some r) →
   ∃ K, ∀ k, K ≤ k → ∀ m, K ≤ m → fC k s N m p acc = some r := by
   intro o ⟨K1, h1⟩ r ⟨K2, h2⟩
   refine ⟨K1 + K2 + 1, fun k X m hm => ?_⟩
   obtain ⟨m, rfl⟩ : ∃ q, m = q + 1 := ⟨m - 1, by omega⟩
   rw [fC, if_pos l4, h1 k (by omega), Option.bind_some]
   have h3 := h2 k (by omega) m (by omega)
   cases o with
   | error x => exact h3
   | ok x => exact h3
  by_cases h8 : p + 8 > (s.size : Int)
  ·refine ⟨.error (s.size, 152), mQ (.error (s.size, 152)) ⟨0, fun k _ => ?_⟩ ⟨0, fun k _ m _ => rfl⟩, ?_, trivial⟩
   ·unfold jF
    by_cases c : (s.size : Int) - p < 4
    ·rw [if_pos c]
    ·rw [if_neg c, if_pos (by omega)]
   ·refine Ev.step (fun k => by rw [p5.l0]) ?_
    rw [Pa, e8]
    refine Ev.yes h11 (Ev.yes (by omega) (Ev.yes h8 ?_))
    refine Ev.step (fun k => by rw [p5.j1]) ?_
    exact Ev.yes rfl (Ev.now _)
  have hz : (s.extract (p + 4).toNat (p + 8).toNat).size = 4 := by rw [ap7 (by omega) (by omega) (by omega)]; omega
  obtain ⟨nn, eU⟩ : ∃ nn, b8 (s.extract (p + 4).toNat (p + 8).toNat) 4 = nn := ⟨_, rfl⟩
  have hr4 := (qZ (s.extract (p + 4).toNat (p + 8).toNat)).2.2.2
  rw [eU] at hr4
  have Nn : Ev (fun k => L8.f k (s.extract (p + 4).toNat (p + 8).toNat)) nn := Ev.ok (aq0 _ (by omega)) (by rw [hz, eU])
  have ew : wrap64 (wrap64 ((s.size : Int) - p) - 8) = (s.size : Int) - p - 8 := by
   rw [U3 (x := (s.size : Int) - p) (by omega) (by omega), U3 (by omega) (by omega)]
  have By : ∀ {r : Int × Int × List (List J1) × Int × Int}, Ev (fun k => p5.j1 k s p (decide (nn > (s.size : Int) - p - 8)) f d acc) r → Ev (fun k => p5.l0 k s p f d acc) r := by
   intro r h
   refine Ev.step (fun k => by rw [p5.l0]) ?_
   rw [Pa, e8, e4]
   refine Ev.yes h11 (Ev.yes (by omega) (Ev.no h8 (Ev.yes (by omega) (Ev.yes (by omega) (Ev.yes (by omega) (Ev.bind Nn ?_))))))
   rw [ew]
   exact h
  by_cases Ou : nn > (s.size : Int) - p - 8
  ·refine ⟨.error (s.size, 152), mQ (.error (s.size, 152)) ⟨0, fun k _ => ?_⟩ ⟨0, fun k _ m _ => rfl⟩, By ?_, trivial⟩
   ·unfold jF
    rw [if_neg (by omega), if_neg (by omega), eU, if_pos (by omega)]
   ·refine Ev.step (fun k => by rw [p5.j1]) ?_
    exact Ev.yes (decide_eq_true Ou) (Ev.now _)
  have eq2 : wrap64 (wrap64 (p + 8) + nn) = p + 8 + nn := by rw [e8, U3 (by omega) (by omega)]
  have hj : ∀ {r : Int × Int × List (List J1) × Int × Int}, Ev (fun k => if (s.extract p.toNat (p + 4).toNat).toList = ([77, 84, 114, 107] : List UInt8) then
   (if 0 ≤ p + 8 then (if p + 8 ≤ p + 8 + nn then (if p + 8 + nn ≤ (s.size : Int) then
    ((i9.f k (s.extract (p + 8).toNat (p + 8 + nn).toNat)).bind fun N6 => (if N6.2.2 = 0 then ((U9.f k N6.1).bind fun T5 => (if T5 = true then (if acc.length < 5864062014805 then (p5.l0 k s (p + 8 + nn) f d (acc ++ [N6.1])) else none) else some (0, 0, ([] : List (List N0)), p + 8, 160))) else some (0, 0, ([] : List (List N0)), wrap64 (p + 8 + N6.2.1), N6.2.2))) else none) else none) else none)
   else p5.l0 k s (p + 8 + nn) f d acc) r → Ev (fun k => p5.l0 k s p f d acc) r := by
   intro r h
   refine By ?_
   refine Ev.step (fun k => by rw [p5.j1]) ?_
   rw [e8, e4]
   refine Ev.no (by rw [decide_eq_false Ou]; decide) (Ev.yes (by omega) (Ev.yes (by omega) (Ev.yes (by omega) (Ev.bind Nn ?_))))
   rw [show wrap64 (p + 8 + nn) = p + 8 + nn from U3 (by omega) (by omega)]
   exact Ev.yes (by omega) (Ev.yes (by omega) (Ev.yes (by omega) h))
  by_cases kM : (s.extract p.toNat (p + 4).toNat).toList = ([77, 84, 114, 107] : List UInt8)
  case neg =>
   obtain ⟨o, oL, KH, eM⟩ := Ql hs N f d hN h11 (n - 8) (p + 8 + nn) acc (by omega) (by omega) (by omega) ha hm
   refine ⟨o, mQ (.ok ([], p + 8 + nn)) ⟨0, fun k _ => ?_⟩ ?_, hj (Ev.no kM KH), eM⟩
   ·unfold jF
    rw [if_neg (by omega), if_neg (by omega), eU, if_neg (by omega), if_neg kM]
   ·obtain ⟨K, hK⟩ := oL
    exact ⟨K, fun k X m hm => by show (if ([] : List J1).length = 0 then fC k s N m (p + 8 + nn) acc else if acc.length < 5864062014805 then fC k s N m (p + 8 + nn) (acc ++ [[]]) else none) = some o; rw [if_pos (by rfl)]; exact hK k X m hm⟩
  obtain ⟨l, q, c, gK, YT, hq, cU⟩ := da7 (t := s.extract (p + 8).toNat (p + 8 + nn).toNat) (by rw [ap7 (by omega) (by omega) (by omega)]; omega)
  have Oh : ∀ {o : Except (Int × Int) (List J1 × Int)}, Ev (fun k => if c = 0 then (CD.f k l).bind fun b => if b = true then some (.ok (l, p + 8 + nn)) else some (.error (p + 8, 160)) else some (.error (wrap64 (p + 8 + q), c))) o → ∃ K, ∀ k, K ≤ k → jF k s p = some o := by
   intro o ⟨K2, h2⟩
   obtain ⟨K1, h1⟩ := gK
   refine ⟨K1 + K2, fun k X => ?_⟩
   have h3 : M_.f k (s.extract (p + 8).toNat (p + 8 + nn).toNat) = some (l, q, c) := h1 k (by omega)
   unfold jF
   rw [if_neg (by omega), if_neg (by omega), eU, if_neg (by omega), if_pos kM, h3, Option.bind_some]
   exact h2 k (by omega)
  by_cases hc : c = 0
  case neg =>
   refine ⟨.error (wrap64 (p + 8 + q), c), mQ _ (Oh (Ev.no hc (Ev.now _))) ⟨0, fun k _ m _ => rfl⟩, hj (Ev.yes kM (Ev.yes (by omega) (Ev.yes (by omega) (Ev.yes (by omega) (Ev.bind YT ?_))))), trivial⟩
   exact Ev.no hc (Ev.now _)
  cases hE : zB l
  ·refine ⟨.error (p + 8, 160), mQ _ (Oh (Ev.yes hc (Ev.bind (Ln l cU) (Ev.no (by rw [hE]; decide) (Ev.now _))))) ⟨0, fun k _ m _ => rfl⟩, hj (Ev.yes kM (Ev.yes (by omega) (Ev.yes (by omega) (Ev.yes (by omega) (Ev.bind YT ?_))))), trivial⟩
   exact Ev.yes hc (Ev.bind (Qm l cU) (Ev.no (by rw [hE]; decide) (Ev.now _)))
  ·have hln : l.length ≠ 0 := by
    intro h0
    rw [List.length_eq_zero_iff.mp h0] at hE
    cases hE
   obtain ⟨o, oL, KH, eM⟩ := Ql hs N f d hN h11 (n - 8) (p + 8 + nn) (acc ++ [l]) (by omega) (by omega) (by omega) XQ (fun x hx => by rcases List.mem_append.mp hx with h | h; exact hm x h; rw [List.mem_singleton.mp h]; exact cU)
   refine ⟨o, mQ _ (Oh (Ev.yes hc (Ev.bind (Ln l cU) (Ev.yes hE (Ev.now _))))) ?_, hj (Ev.yes kM (Ev.yes (by omega) (Ev.yes (by omega) (Ev.yes (by omega) (Ev.bind YT ?_))))), eM⟩
   ·obtain ⟨K, hK⟩ := oL
    exact ⟨K, fun k X m hm => by show (if l.length = 0 then fC k s N m (p + 8 + nn) acc else if acc.length < 5864062014805 then fC k s N m (p + 8 + nn) (acc ++ [l]) else none) = some o; rw [if_neg hln, if_pos (by omega)]; exact hK k X m hm⟩
   ·exact Ev.yes hc (Ev.bind (Qm l cU) (Ev.yes hE (Ev.yes (by omega) KH)))
 termination_by n => n
 decreasing_by all_goals omega
theorem aq9 {s : ByteArray} : ∀ (n i : Nat) {a c : Int}, kC s n i = some (a, c) → c ≠ 0
 | 0, i, a, c, h => by cases h
 | n + 1, i, a, c, h => by
  rw [kC] at h
  split at h
  ·split at h
   ·exact aq9 n (i + 1) h
   ·simp only [Option.some.injEq, Prod.mk.injEq] at h
    rw [← h.2]
    decide
  ·simp only [Option.some.injEq, Prod.mk.injEq] at h
   rw [← h.2]
   decide
theorem ao8 {s : ByteArray} {a b i : Nat} (h : a + i < b) (G : b ≤ s.size) : bt (s.extract a b) (i : Int) = bt s ((a + i : Nat) : Int) := by
 rw [← Ym, ← Ym, Uk]
 unfold rd
 have e : ((a : Int) + (i : Int)).toNat = a + i := by omega
 simp [List.getD_eq_getElem?_getD, List.getElem?_drop, show i < b - a by omega, e]
theorem cp5 (s : ByteArray) : ∃ (f d : Int) (ts : List (List J1)) (a c : Int), Ev (fun k => I8.f k s) (f, d, ts, a, c) ∧ Ev (fun k => p5.f k s) (f, d, ts, a, c) ∧ Small ts := by
 have qQ : Small ([] : List (List J1)) := ⟨by simp, fun l hl => by cases hl⟩
 by_cases hs : (s.size : Int) > 100000
 ·exact ⟨_, _, _, _, _, Km hs, Ev.yes hs (Ev.now _), qQ⟩
 have Br : s.size ≤ 100000 := by omega
 cases hh : kC s 14 0 with
 | some x =>
  obtain ⟨a, c⟩ := x
  refine ⟨_, _, _, _, _, cz8 Br hh, Ev.no hs (Ev.bind (ap1 (by omega)) ?_), qQ⟩
  rw [hh]
  exact Ev.no (aq9 14 0 hh) (Ev.now _)
 | none =>
  have hz := Wk 14 0 hh (by omega)
  have hb9 := aD s 9
  obtain ⟨o, ⟨K, hK⟩, KH, eM⟩ := Ql Br (bt s 11) (bt s 9) (fB (bt s 12) (bt s 13)) rfl (by omega) s.size 14 [] (by omega) (by omega) (by omega) (by simp) (fun l hl => by cases hl)
  have h1 : Ev (fun k => I8.f k s) (bZ s (bt s 9) (fB (bt s 12) (bt s 13)) o) := by
   refine ⟨K, fun k X => ?_⟩
   show I8.f k s = _
   unfold I8.f
   rw [if_neg hs, hh]
   show (fC k s (bt s 11) k 14 []).bind _ = _
   rw [hK k X k X]
   cases o with
   | error x => rfl
   | ok x =>
    obtain ⟨ts, q⟩ := x
    show (if q < (s.size : Int) then some ((0 : Int), (0 : Int), ([] : List (List N0)), q, (160 : Int)) else some (bt s 9, fB (bt s 12) (bt s 13), ts, 0, 0)) = some (if q < (s.size : Int) then _ else _)
    by_cases c : q < (s.size : Int)
    ·rw [if_pos c, if_pos c]
    ·rw [if_neg c, if_neg c]
  have YT : Ev (fun k => L8.f k (s.extract 12 14)) (fB (bt s 12) (bt s 13)) := by
   have ND : (s.extract 12 14).size = 2 := by rw [ByteArray.size_extract]; omega
   refine Ev.ok (aq0 (s.extract 12 14) (by omega)) ?_
   rw [ND]
   have e0 : bt (s.extract 12 14) ((0 : Nat) : Int) = bt s 12 := ao8 (a := 12) (b := 14) (i := 0) (by omega) (by omega)
   have e1 : bt (s.extract 12 14) ((1 : Nat) : Int) = bt s 13 := ao8 (a := 12) (b := 14) (i := 1) (by omega) (by omega)
   have G := aD s 12
   rw [b8, b8, b8, e0, e1, at4 (by decide) (by decide) G.1 (by omega)]
   simp
  have h2 : Ev (fun k => p5.f k s) (bZ s (bt s 9) (fB (bt s 12) (bt s 13)) o) := by
   refine Ev.no hs (Ev.bind (ap1 (by omega)) ?_)
   rw [hh]
   refine Ev.yes rfl (Ev.yes (by omega) (Ev.yes (by decide) (Ev.yes (by omega) (Ev.bind YT ?_))))
   rw [show wrap64 (bt s 9) = bt s 9 from U3 (by omega) (by omega)]
   exact KH
  cases o with
  | error x => exact ⟨_, _, _, _, _, h1, h2, qQ⟩
  | ok x =>
   obtain ⟨ts, q⟩ := x
   unfold bZ at h1 h2
   by_cases c : q < (s.size : Int)
   ·simp only [if_pos c] at h1 h2
    exact ⟨_, _, _, _, _, h1, h2, qQ⟩
   ·simp only [if_neg c] at h1 h2
    exact ⟨_, _, _, _, _, h1, h2, ⟨Nat.le_trans eM.1 (by decide), eM.2⟩⟩
end Go.Proofs.Ytdmnknhlibaaoaa.Z
namespace Go.Proofs.Ytdmnknhlibaaoaa.Z
open Go.RowKit Go.Proofs.YtdmnknhlibaaoaaW.PrintWords Go.Proofs.YtdmnknhlibaaoaaW.PrintLast Go.Proofs.YtdmnknhlibaaoaaW.PrintMore Go.Proofs.Ytdmnknhlibaaoaa.M
set_option linter.unusedVariables false
theorem xR (s : ByteArray) : Ev (fun k => Z4.f k s) true := by
 obtain ⟨f, d, ts, a, c, h1, h2, h3⟩ := cp5 s
 refine Ev.bind h1 (Ev.bind h2 ?_)
 dsimp only
 exact Ev.bind (aq1 f d ts f d ts h3) (Ev.yes (by simp) (Ev.yes rfl (Ev.ok (Ev.now _) (by simp))))
theorem ah0 (f d : Int) (ts : List (List J1)) (hs : Small ts) (ht : lD ts ≤ 1000000000) : Ev (fun k => AD.f k f d ts) true := by
 refine Ev.bind (al2 f d ts hs) (Ev.bind (ah6 f d ts hs) (Ev.bind (an8 f d ts hs ht) (Ev.bind (cv2 f d ts hs ht) ?_)))
 exact Ev.yes rfl (Ev.yes rfl (Ev.yes rfl (Ev.ok (Ev.now _) (by simp))))
theorem cz4 (a b : J1) : ((!(a.f0 == b.f0)) || ((!(a.f1 == b.f1)) || ((!(a.f2 == b.f2)) || ((!(a.f3 == b.f3)) || ((!(a.f4 == b.f4)) || (!(a.f5.toList == b.f5.toList))))))) = !decide (a = b) := by
 rw [Bool.eq_iff_iff]
 simp only [Bool.or_eq_true, Bool.not_eq_true', beq_eq_false_iff_ne, decide_eq_false_iff_not, ne_eq, toList_eq]
 constructor
 ·rintro h rfl
  simp at h
 ·intro h
  refine Classical.byContradiction fun hn => h ?_
  simp only [not_or, Classical.not_not] at hn
  obtain ⟨h0, h1, h2, h3, h4, h5⟩ := hn
  cases a
  cases b
  simp_all
section
variable (f d f' d' : Int) (a b : List (List J1)) (ha : Small a)
include ha
theorem ai6 (i : Nat) (hi : i < a.length) (hib : i < b.length) (hl : (L0 a (i : Int)).length = (L0 b (i : Int)).length)
 (hn : Ev (fun k => b5.l0 k ((i : Int) + 1) f d a f' d' b) (decide (a.drop (i + 1) = b.drop (i + 1)))) : ∀ (j q : Nat), q + j = (L0 a (i : Int)).length →
 Ev (fun k => b5.l1 k (i : Int) (q : Int) f d a f' d' b) (decide ((L0 a (i : Int)).drop q = (L0 b (i : Int)).drop q) && decide (a.drop (i + 1) = b.drop (i + 1)))
 | 0, q, hj => by
  have h1 := ha.1
  refine Ev.step (fun k => by rw [b5.l1]) ?_
  refine Ev.yes (by omega) (Ev.yes (by omega) (Ev.no (by omega) ?_))
  rw [U3 (by omega) (by omega), List.drop_eq_nil_of_le (by omega), List.drop_eq_nil_of_le (by omega), decide_eq_true rfl, Bool.true_and]
  exact hn
 | j + 1, q, hj => by
  have h1 := ha.1
  have h2 := ha.2 _ (aN a i hi)
  refine Ev.step (fun k => by rw [b5.l1]) ?_
  refine Ev.yes (by omega) (Ev.yes (by omega) (Ev.yes (by omega) (Ev.yes (by omega) (Ev.yes (by omega) (Ev.yes (by omega) ?_)))))
  rw [cz4, cI _ q (by omega), cI (L0 b (i : Int)) q (by omega)]
  by_cases c : U (L0 a (i : Int)) (q : Int) = U (L0 b (i : Int)) (q : Int)
  ·refine Ev.no (by rw [decide_eq_true c]; decide) ?_
   rw [show wrap64 ((q : Int) + 1) = ((q + 1 : Nat) : Int) from (U3 (by omega) (by omega)).trans (by omega)]
   refine Ev.ok (ai6 i hi hib hl hn j (q + 1) (by omega)) ?_
   congr 1
   rw [c]
   simp
  ·refine Ev.yes (by rw [decide_eq_false c]; rfl) (Ev.ok (Ev.now _) ?_)
   rw [decide_eq_false (fun h => c (List.cons.inj h).1), Bool.false_and]
theorem ah5 (hab : a.length = b.length) : ∀ (j i : Nat), i + j = a.length → Ev (fun k => b5.l0 k (i : Int) f d a f' d' b) (decide (a.drop i = b.drop i))
 | 0, i, hj => by
  refine Ev.step (fun k => by rw [b5.l0]) ?_
  refine Ev.no (by omega) (Ev.ok (Ev.now _) ?_)
  rw [List.drop_eq_nil_of_le (by omega), List.drop_eq_nil_of_le (by omega)]
  simp
 | j + 1, i, hj => by
  have ih := ah5 hab j (i + 1) (by omega)
  rw [show ((i + 1 : Nat) : Int) = (i : Int) + 1 by omega] at ih
  refine Ev.step (fun k => by rw [b5.l0]) ?_
  refine Ev.yes (by omega) (Ev.yes (by omega) (Ev.yes (by omega) ?_))
  rw [sL a i (by omega), sL b i (by omega)]
  by_cases c : (L0 a (i : Int)).length = (L0 b (i : Int)).length
  ·refine Ev.yes (by omega) (Ev.ok (ai6 f d f' d' a b ha i (by omega) (by omega) c ih _ 0 (Nat.zero_add _)) ?_)
   rw [List.drop_zero, List.drop_zero, Bool.eq_iff_iff]
   simp
  ·refine Ev.no (by omega) (Ev.ok (Ev.now _) ?_)
   rw [decide_eq_false (fun h => c (by rw [(List.cons.inj h).1]))]
theorem ct3 : Ev (fun k => b5.f k f d a f' d' b) (decide (f = f' ∧ d = d' ∧ a = b)) := by
 have J : ∀ x : Bool, (x = false → a.length = b.length) → Ev (fun k => b5.j0 k x f d a f' d' b) (!x && decide (a = b)) := by
  intro x hx
  refine Ev.step (fun k => by rw [b5.j0]) ?_
  cases x
  ·exact Ev.no (by decide) (Ev.ok (ah5 f d f' d' a b ha (hx rfl) a.length 0 (by omega)) (by simp))
  ·exact Ev.yes rfl (Ev.ok (Ev.now _) rfl)
 unfold b5.f
 by_cases c1 : f = f'
 ·refine Ev.yes c1 ?_
  by_cases c2 : d = d'
  ·refine Ev.yes c2 (Ev.ok (J _ ?_) ?_)
   ·intro h
    have := bne_eq_false_iff_eq.mp h
    omega
   ·rw [Bool.eq_iff_iff]
    simp only [Bool.and_eq_true, Bool.not_eq_true', bne_eq_false_iff_eq, decide_eq_true_eq]
    constructor
    ·rintro ⟨_, h⟩
     exact ⟨c1, c2, h⟩
    ·rintro ⟨_, _, h⟩
     exact ⟨by rw [h], h⟩
  ·exact Ev.no c2 (Ev.ok (J true (fun h => by cases h)) (by simp [c2]))
 ·exact Ev.no c1 (Ev.ok (J true (fun h => by cases h)) (by simp [c1]))
end
end Go.Proofs.Ytdmnknhlibaaoaa.Z
namespace Go.Proofs.Ytdmnknhlibaaoaa.Z
open Go.RowKit Go.Proofs.YtdmnknhlibaaoaaW.PrintWords Go.Proofs.Ytdmnknhlibaaoaa.M
def iH (x : Int) : Prop := -9223372036854775808 ≤ x ∧ x ≤ 9223372036854775807
def Raw (m : J1) : Prop := iH m.f0 ∧ iH m.f1 ∧ iH m.f2 ∧ iH m.f3 ∧ iH m.f4
def tV (ts : List (List J1)) : Prop := ∀ l ∈ ts, ∀ m ∈ l, Raw m
def GM (m : J1) : Prop := iC m ∧ IC m = false ∧ m.f5.size ≤ 200 ∧ m.f0 ≠ 5000
def VH (d : Int) : J1 := ⟨d, 16, 0, 47, 0, ⟨#[]⟩⟩
def GT (l : List J1) : Prop := ∃ a : List J1, l = a ++ [VH (a.length : Int)] ∧ a.length ≤ 12 ∧ ∀ m ∈ a, GM m
def GF (f d : Int) (ts : List (List J1)) : Prop := (f = 0 ∨ f = 1) ∧ 1 ≤ d ∧ d ≤ 32767 ∧ 1 ≤ ts.length ∧ ts.length ≤ 5 ∧ (f = 0 → ts.length = 1) ∧ ∀ l ∈ ts, GT l
end Go.Proofs.Ytdmnknhlibaaoaa.Z
namespace Go.Proofs.Ytdmnknhlibaaoaa.Z
open Go.RowKit Go.Proofs.YtdmnknhlibaaoaaW.PrintWords Go.Proofs.YtdmnknhlibaaoaaW.PrintLast Go.Proofs.YtdmnknhlibaaoaaW.PrintMore Go.Proofs.Ytdmnknhlibaaoaa.M
set_option linter.unusedVariables false
theorem ai5 {x n : Int} (hx : 0 ≤ x) (hn : 0 < n) : 0 ≤ Int.tmod x n ∧ Int.tmod x n < n := ⟨Int.tmod_nonneg n hx, Int.tmod_lt_of_pos x hn⟩
theorem VJ {c n : Int} (hc : iH c) (hn : 0 < n) : ∃ r, l6.f c n = some r ∧ 0 ≤ r ∧ r < n := by
 unfold l6.f
 obtain ⟨h0, h1⟩ := hc
 by_cases c1 : c < 0
 ·rw [if_pos c1, if_neg (by omega)]
  have e1 : wrap64 (c + 1) = c + 1 := U3 (by omega) (by omega)
  have e2 : wrap64 (-(c + 1)) = -(c + 1) := U3 (by omega) (by omega)
  rw [e1, e2]
  exact ⟨_, rfl, ai5 (by omega) hn⟩
 ·rw [if_neg c1, if_neg (by omega)]
  exact ⟨_, rfl, ai5 (by omega) hn⟩
theorem cr0 (a : Int) (ha : 0 ≤ a) : 0 ≤ mn a 200 ∧ mn a 200 ≤ a ∧ mn a 200 ≤ 200 := by
 unfold mn
 split <;> omega
theorem cu1 {m : J1} (hm : Raw m) : ∃ x : J1, gF.f m.f0 m.f1 m.f2 m.f3 m.f4 m.f5 = some (x.f0, x.f1, x.f2, x.f3, x.f4, x.f5) ∧ GM x := by
 obtain ⟨h0, h1, h2, h3, h4⟩ := hm
 obtain ⟨d, ed, d0, d1⟩ := VJ h0 (n := 7) (by decide)
 obtain ⟨k, ek, k0, k1⟩ := VJ h1 (n := 9) (by decide)
 obtain ⟨s, es, s0, s1⟩ := VJ h3 (n := 2) (by decide)
 obtain ⟨t, et, t0, t1⟩ := VJ h3 (n := 47) (by decide)
 obtain ⟨c, ec, c0, c1⟩ := VJ h2 (n := 16) (by decide)
 obtain ⟨a, ea, a0, a1⟩ := VJ h3 (n := 128) (by decide)
 obtain ⟨b, eb, b0, b1⟩ := VJ h4 (n := 128) (by decide)
 have YF : 0 ≤ (m.f5.size : Int) := by omega
 obtain ⟨q0, q1, q2⟩ := cr0 (m.f5.size : Int) YF
 have ew : wrap64 (8 + k) = 8 + k := U3 (by omega) (by omega)
 have hd : 0 ≤ rd [0, 1, 96, 127, 128, 16384, 268435455] d ∧ rd [0, 1, 96, 127, 128, 16384, 268435455] d ≤ 268435455 ∧ rd [0, 1, 96, 127, 128, 16384, 268435455] d ≠ 5000 := by
  have : d = 0 ∨ d = 1 ∨ d = 2 ∨ d = 3 ∨ d = 4 ∨ d = 5 ∨ d = 6 := by omega
  rcases this with rfl | rfl | rfl | rfl | rfl | rfl | rfl <;> decide
 have hs : rd [240, 247] s = 240 ∨ rd [240, 247] s = 247 := by
  have : s = 0 ∨ s = 1 := by omega
  rcases this with rfl | rfl
  ·exact .inl rfl
  ·exact .inr rfl
 have hx : (m.f5.extract 0 ((mn (m.f5.size : Int) 200) : Int).toNat).size ≤ 200 := by
  rw [ByteArray.size_extract]
  omega
 unfold gF.f
 rw [Option.bind_some, ed, Option.bind_some, if_pos d0, if_pos (show d < (([0, 1, 96, 127, 128, 16384, 268435455] : List Int).length : Int) from d1), ek, Option.bind_some, if_pos q0, if_pos q1, ew]
 generalize UX : rd [0, 1, 96, 127, 128, 16384, 268435455] d = dd at hd ⊢
 generalize m.f5.extract 0 ((mn (m.f5.size : Int) 200) : Int).toNat = data at hx ⊢
 have uJ : (⟨#[]⟩ : ByteArray).size ≤ 100000 := by decide
 have AN : (⟨#[]⟩ : ByteArray).size ≤ 200 := by decide
 by_cases k7 : 8 + k = 15
 ·rw [if_pos k7, Option.bind_some, es, Option.bind_some, if_pos s0, if_pos (show s < (([240, 247] : List Int).length : Int) from s1)]
  generalize rd [240, 247] s = ss at hs ⊢
  refine ⟨⟨dd, 8 + k, 0, ss, 0, data⟩, rfl, ⟨hd.1, hd.2.1, BD, .inr (.inl ⟨k7, rfl, rfl, hs⟩)⟩, ?_, hx, hd.2.2⟩
  unfold IC
  dsimp only
  rw [decide_eq_false (by omega), Bool.false_and]
 rw [if_neg k7]
 by_cases k8 : 8 + k = 16
 ·rw [if_pos k8, et, Option.bind_some]
  refine ⟨⟨dd, 8 + k, 0, t, 0, data⟩, rfl, ⟨hd.1, hd.2.1, BD, .inr (.inr ⟨k8, rfl, rfl, t0, BD⟩)⟩, ?_, hx, hd.2.2⟩
  unfold IC
  dsimp only
  rw [decide_eq_false (p := t = 47) (by omega), Bool.false_and, Bool.and_false]
 rw [if_neg k8, ec, Option.bind_some, ea, Option.bind_some]
 by_cases k4 : 8 + k = 12
 ·rw [if_pos k4]
  refine ⟨⟨dd, 8 + k, c, a, 0, ⟨#[]⟩⟩, rfl, ⟨hd.1, hd.2.1, uJ, .inl ⟨?_, ?_, c0, ?_, a0, ?_, ?_, ?_, fun _ => rfl, rfl⟩⟩, ?_, AN, hd.2.2⟩
  all_goals try (dsimp only; omega)
  unfold IC
  dsimp only
  rw [decide_eq_false (by omega), Bool.false_and]
 rw [if_neg k4]
 by_cases k5 : 8 + k = 13
 ·rw [if_pos k5]
  refine ⟨⟨dd, 8 + k, c, a, 0, ⟨#[]⟩⟩, rfl, ⟨hd.1, hd.2.1, uJ, .inl ⟨?_, ?_, c0, ?_, a0, ?_, ?_, ?_, fun _ => rfl, rfl⟩⟩, ?_, AN, hd.2.2⟩
  all_goals try (dsimp only; omega)
  unfold IC
  dsimp only
  rw [decide_eq_false (by omega), Bool.false_and]
 rw [if_neg k5, eb, Option.bind_some]
 refine ⟨⟨dd, 8 + k, c, a, b, ⟨#[]⟩⟩, rfl, ⟨hd.1, hd.2.1, uJ, .inl ⟨?_, ?_, c0, ?_, a0, ?_, b0, ?_, ?_, rfl⟩⟩, ?_, AN, hd.2.2⟩
 all_goals try (dsimp only; omega)
 unfold IC
 dsimp only
 rw [decide_eq_false (by omega), Bool.false_and]
theorem ak7 (d : Int) : jC.f d = some ((VH d).f0, (VH d).f1, (VH d).f2, (VH d).f3, (VH d).f4, (VH d).f5) := rfl
section
variable (L : List (List J1)) (a0 a1 f d : Int)
theorem ae9 (hL : tV L) (i : Nat) (hi : i < L.length) (acc : List (List J1)) : ∀ (j n : Nat) (x : List J1), n + j = 12 → x.length = n → (∀ m ∈ x, GM m) →
 ∃ x' : List J1, x'.length ≤ 12 ∧ (∀ m ∈ x', GM m) ∧ ∀ r, Ev (fun k => F3.j3 k (i : Int) x' a0 a1 L f d acc) r → Ev (fun k => F3.l1 k (i : Int) x (n : Int) a0 a1 L f d acc) r
 | 0, n, x, hn, hx, hg => by
  refine ⟨x, by omega, hg, fun r h => ?_⟩
  refine Ev.step (fun k => by rw [F3.l1]) ?_
  refine Ev.yes (by omega) (Ev.yes (by omega) ?_)
  by_cases c : (n : Int) < ((L0 L (i : Int)).length : Int)
  ·exact Ev.yes c (Ev.no (by omega) h)
  ·exact Ev.no c h
 | j + 1, n, x, hn, hx, hg => by
  by_cases c : (n : Int) < ((L0 L (i : Int)).length : Int)
  ·have hm : Raw (U (L0 L (i : Int)) (n : Int)) := by
    refine hL _ (aN L i hi) _ ?_
    unfold U
    rw [Int.toNat_natCast, List.getD_eq_getElem?_getD, List.getElem?_eq_getElem (by omega)]
    exact List.getElem_mem (by omega)
   obtain ⟨y, hy, Qy⟩ := cu1 hm
   obtain ⟨x', h1, h2, h3⟩ := ae9 hL i hi acc j (n + 1) (x ++ [y]) (by omega) (by rw [List.length_append, hx]; rfl) (fun m h => by
    rcases List.mem_append.1 h with h | h
    ·exact hg m h
    ·rw [List.mem_singleton.1 h]; exact Qy)
   refine ⟨x', h1, h2, fun r h => ?_⟩
   have h4 := h3 r h
   refine Ev.step (fun k => by rw [F3.l1]) ?_
   refine Ev.yes (by omega) (Ev.yes (by omega) (Ev.yes c (Ev.yes (by omega) (Ev.yes (by omega) (Ev.bind (Ev.eq hy) (Ev.yes (by omega) ?_))))))
   have e1 : wrap64 ((n : Int) + 1) = ((n + 1 : Nat) : Int) := by rw [U3 (by omega) (by omega)]; omega
   rw [e1]
   exact h4
  ·refine ⟨x, by omega, hg, fun r h => ?_⟩
   refine Ev.step (fun k => by rw [F3.l1]) ?_
   exact Ev.yes (by omega) (Ev.yes (by omega) (Ev.no c h))
theorem cx8 (acc : List (List J1)) (x4 : Int) (hf : f = 0 ∨ f = 1) (hd : 1 ≤ d ∧ d ≤ 32767) (hl : acc.length ≤ 5) (h0 : f = 0 → acc.length ≤ 1) (hg : ∀ l ∈ acc, GT l) :
 ∃ ts, Ev (fun k => F3.j1 k x4 false a0 a1 L f d acc) (f, d, ts) ∧ GF f d ts := by
 by_cases c : (acc.length : Int) = 0
 ·refine ⟨[[VH 0]], ?_, hf, hd.1, hd.2, by decide, by decide, fun _ => rfl, fun l hl => ?_⟩
  ·refine Ev.step (fun k => by rw [F3.j1]) ?_
   exact Ev.no (by decide) (Ev.yes c (Ev.bind (Ev.eq (ak7 0)) (Ev.now _)))
  ·rw [List.mem_singleton.1 hl]
   exact ⟨[], rfl, by decide, fun m hm => by cases hm⟩
 ·refine ⟨acc, ?_, hf, hd.1, hd.2, by omega, hl, fun h => by have := h0 h; omega, hg⟩
  refine Ev.step (fun k => by rw [F3.j1]) ?_
  exact Ev.no (by decide) (Ev.no c (Ev.now _))
theorem al3 (hL : tV L) (hf : f = 0 ∨ f = 1) (hd : 1 ≤ d ∧ d ≤ 32767) : ∀ (j i : Nat) (acc : List (List J1)), i + j = 5 → acc.length = i → (f = 0 → i ≤ 1) → (∀ l ∈ acc, GT l) →
 ∃ ts, Ev (fun k => F3.l0 k (i : Int) a0 a1 L f d acc) (f, d, ts) ∧ GF f d ts
 | j, i, acc, hi, bu4, h0, hg => by
  obtain ⟨Lf, e0, g0⟩ := cx8 L a0 a1 f d acc (i : Int) hf hd (by omega) (fun h => by have := h0 h; omega) hg
  by_cases c1 : (i : Int) < (L.length : Int)
  ·by_cases c2 : (i : Int) < 5
   ·by_cases c3 : i < 1 ∨ f = 1
    ·
     cases j with
     | zero => omega
     | succ j =>
      obtain ⟨x', vJ, Uy, Ds⟩ := ae9 L a0 a1 f d hL i (by omega) acc 12 0 [] rfl rfl (fun m hm => by cases hm)
      obtain ⟨ts, e1, g1⟩ := al3 hL hf hd j (i + 1) (acc ++ [x' ++ [VH (x'.length : Int)]]) (by omega) (by rw [List.length_append, bu4]; rfl) (fun h => by rcases c3 with c3 | c3 <;> omega) (fun l hl => by
       rcases List.mem_append.1 hl with hl | hl
       ·exact hg l hl
       ·rw [List.mem_singleton.1 hl]; exact ⟨x', rfl, vJ, Uy⟩)
      refine ⟨ts, ?_, g1⟩
      have e3 : Ev (fun k => F3.j3 k (i : Int) x' a0 a1 L f d acc) (f, d, ts) := by
       refine Ev.step (fun k => by rw [F3.j3]) ?_
       refine Ev.bind (Ev.eq (ak7 _)) (Ev.yes (by omega) (Ev.yes (by omega) ?_))
       have ew : wrap64 ((i : Int) + 1) = ((i + 1 : Nat) : Int) := by rw [U3 (by omega) (by omega)]; omega
       rw [ew]
       exact e1
      have e4 : Ev (fun k => F3.j1 k (i : Int) true a0 a1 L f d acc) (f, d, ts) := by
       refine Ev.step (fun k => by rw [F3.j1]) ?_
       exact Ev.yes rfl (Ds _ e3)
      refine Ev.step (fun k => by rw [F3.l0]) ?_
      refine Ev.yes c1 (Ev.yes c2 ?_)
      by_cases c4 : (i : Int) < 1
      ·exact Ev.yes c4 e4
      ·have Cv : f = 1 := by rcases c3 with c3 | c3 <;> omega
       refine Ev.no c4 ?_
       have : (f == 1) = true := beq_iff_eq.mpr Cv
       rw [this]
       exact e4
    ·refine ⟨Lf, ?_, g0⟩
     refine Ev.step (fun k => by rw [F3.l0]) ?_
     refine Ev.yes c1 (Ev.yes c2 (Ev.no (by omega) ?_))
     have : (f == 1) = false := beq_eq_false_iff_ne.mpr (by omega)
     rw [this]
     exact e0
   ·refine ⟨Lf, ?_, g0⟩
    refine Ev.step (fun k => by rw [F3.l0]) ?_
    exact Ev.yes c1 (Ev.no c2 e0)
  ·refine ⟨Lf, ?_, g0⟩
   refine Ev.step (fun k => by rw [F3.l0]) ?_
   exact Ev.no c1 e0
end
theorem cw0 {f d : Int} {L : List (List J1)} (hf : iH f) (hd : iH d) (hL : tV L) : ∃ f' d' ts, Ev (fun k => F3.f k f d L) (f', d', ts) ∧ GF f' d' ts := by
 obtain ⟨p, ep, p0, p1⟩ := VJ hf (n := 2) (by decide)
 obtain ⟨q, eq, q0, q1⟩ := VJ hd (n := 32767) (by decide)
 have ew : wrap64 (1 + q) = 1 + q := U3 (by omega) (by omega)
 obtain ⟨ts, e, g⟩ := al3 L f d p (1 + q) hL (by omega) ⟨by omega, by omega⟩ 5 0 [] rfl rfl (fun _ => by decide) (fun l hl => by cases hl)
 refine ⟨p, 1 + q, ts, ?_, g⟩
 refine Ev.bind (Ev.eq ep) (Ev.bind (Ev.eq eq) ?_)
 rw [ew]
 exact e
end Go.Proofs.Ytdmnknhlibaaoaa.Z
namespace Go.Proofs.Ytdmnknhlibaaoaa.Z
open Go.RowKit Go.Proofs.YtdmnknhlibaaoaaW.PrintWords Go.Proofs.YtdmnknhlibaaoaaW.PrintLast Go.Proofs.YtdmnknhlibaaoaaW.PrintMore Go.Proofs.Ytdmnknhlibaaoaa.M
set_option linter.unusedVariables false
abbrev gP : ByteArray := ⟨#[77, 84, 104, 100, 0, 0, 0, 6, 0, 0, 0, 1, 0, 96, 77, 84, 114, 107, 0, 0, 0, 4, 0, 255, 47, 0]⟩
abbrev oR : N0 := ⟨0, 16, 0, 47, 0, ⟨#[]⟩⟩
theorem cw8 : KE.f 40 = some true := by
 have h1 : Q5.f 40 0 96 [[oR]] = some (gP, 0) := by kernel_rfl
 have h2 : I8.f 40 gP = some (0, 96, [[oR]], 0, 0) := by kernel_rfl
 have h3 : I8.f 40 (gP.extract 0 ((mn (gP.size : Int) 20) : Int).toNat) = some (0, 0, [], 20, 152) := by kernel_rfl
 have h4 : H4.f 40 0 96 [] = some (0, 160) := by kernel_rfl
 have h5 : H4.f 40 1 96 [[oR], []] = some (1, 160) := by kernel_rfl
 have h6 : H4.f 40 0 96 [[⟨0, 3, 0, 0, 0, ⟨#[]⟩⟩, oR]] = some (0, 151) := by kernel_rfl
 have h7 : I8.f 40 ⟨#[77, 84, 104, 120]⟩ = some (0, 0, [], 3, 160) := by kernel_rfl
 have h8 : V8.f 40 0 96 [[oR]] 0 96 [[oR]] = some true := by kernel_rfl
 have he : jC.f 0 = some (0, 16, 0, 47, 0, ⟨#[]⟩) := rfl
 have hs : 0 ≤ mn (gP.size : Int) 20 ∧ mn (gP.size : Int) 20 ≤ (gP.size : Int) := by decide
 unfold KE.f
 rw [he, Option.bind_some, Option.bind_some]
 dsimp only
 rw [h1, Option.bind_some]
 dsimp only
 rw [h2, Option.bind_some, if_pos hs.1, if_pos hs.2, h3, Option.bind_some, h4, Option.bind_some, Option.bind_some]
 dsimp only
 rw [h5, Option.bind_some, Option.bind_some]
 dsimp only
 rw [h6, Option.bind_some, h7, Option.bind_some]
 dsimp only
 rw [if_pos rfl, if_pos (by rw [Lib.toList_data]), if_pos rfl, if_pos rfl, h8, Option.bind_some, if_pos rfl, if_pos rfl, if_pos rfl, if_pos rfl, if_pos rfl, if_pos rfl, if_pos rfl, if_pos rfl, if_pos rfl]
 rfl
theorem da9 : Ev (fun k => KE.f k) true := Ev.of (fun k => KE.mono k) cw8
theorem cm0 {n : Nat} (h : n ≤ 12) : iC (VH (n : Int)) := ⟨by show (0 : Int) ≤ (n : Int); omega, by show (n : Int) ≤ 268435455; omega, by show (⟨#[]⟩ : ByteArray).size ≤ 100000; decide, .inr (.inr ⟨rfl, rfl, rfl, by show (0 : Int) ≤ 47; decide, by show (47 : Int) ≤ 127; decide⟩)⟩
theorem co2 (d : Int) : IC (VH d) = true := rfl
theorem Gm : ∀ (a b : List J1), P9 (a ++ b) = P9 a + P9 b
 | [], b => (Nat.zero_add _).symm
 | m :: a, b => by
  rw [List.cons_append, P9, P9, Gm a b]
  omega
theorem ar6 : ∀ {a : List J1}, (∀ m ∈ a, GM m) → P9 a ≤ 210 * a.length
 | [], _ => Nat.zero_le _
 | m :: a, h => by
  have h1 := (h m (by simp)).2.2.1
  have h2 := ar6 (a := a) (fun x hx => h x (by simp [hx]))
  rw [P9, List.length_cons]
  omega
theorem Xm {l : List J1} (h : GT l) : zA l ∧ zB l = true ∧ P9 l ≤ 2730 ∧ l.length ≤ 13 := by
 obtain ⟨a, rfl, h1, h2⟩ := h
 refine ⟨fun m hm => ?_, ai2 (co2 _) (fun m hm => (h2 m hm).2.1), ?_, ?_⟩
 ·rcases List.mem_append.1 hm with hm | hm
  ·exact (h2 m hm).1
  ·rw [List.mem_singleton.1 hm]; exact cm0 h1
 ·rw [Gm]
  have := ar6 h2
  have h3 : P9 [VH (a.length : Int)] = 10 := rfl
  omega
 ·rw [List.length_append, List.length_singleton]; omega
theorem al0 : ∀ {ts : List (List J1)}, (∀ l ∈ ts, GT l) → lD ts ≤ 2738 * ts.length
 | [], _ => Nat.zero_le _
 | l :: r, h => by
  have h1 := (Xm (h l (by simp))).2.2.1
  have h2 := al0 (ts := r) (fun x hx => h x (by simp [hx]))
  rw [lD, List.length_cons]
  omega
structure FR (f d : Int) (ts : List (List J1)) : Prop where
 head : cz6 f d ts.length
 tr : ∀ l ∈ ts, zA l ∧ zB l = true
 sm : lD ts ≤ 99000
theorem cy9 {f d : Int} {ts : List (List J1)} (h : GF f d ts) : FR f d ts := by
 obtain ⟨h1, h2, h3, h4, h5, h6, h7⟩ := h
 refine ⟨⟨h1, h2, h3, h4, by omega, h6⟩, fun l hl => ⟨(Xm (h7 l hl)).1, (Xm (h7 l hl)).2.1⟩, ?_⟩
 have := al0 h7
 omega
theorem ag7 : ∀ l : List J1, l.length ≤ P9 l
 | [] => Nat.le_refl _
 | m :: r => by
  have := ag7 r
  rw [P9, List.length_cons]
  omega
theorem FR.small {f d : Int} {ts : List (List J1)} (h : FR f d ts) : Small ts := by
 refine ⟨by have := h.head.2.2.2.2.1; omega, fun l hl => ?_⟩
 have h1 := LZ hl
 have h2 := ag7 l
 have h3 := h.sm
 omega
theorem FR.check {f d : Int} {ts : List (List J1)} (h : FR f d ts) : BG f d ts = (0, 0) := by
 obtain ⟨⟨h1, h2, h3, h4, h5, h6⟩, h7, h8⟩ := h
 have G : iV f d ts.length = false := by
  unfold iV
  rw [decide_eq_false (show ¬ f < 0 by omega), decide_eq_false (show ¬ f > 1 by omega), decide_eq_false (show ¬ d < 1 by omega), decide_eq_false (show ¬ d > 32767 by omega), decide_eq_false (show ¬ ts.length < 1 by omega), decide_eq_false (show ¬ ts.length > 16 by omega)]
  by_cases c : f = 0
  ·rw [decide_eq_false (show ¬ ts.length > 1 by have := h6 c; omega)]; rfl
  ·rw [decide_eq_false c, Bool.and_false]; rfl
 unfold BG
 rw [G, if_neg (by decide)]
 exact as3 h7
def uP (f d : Int) (ts : List (List J1)) : ByteArray := strOfNums (SJ f d ts)
theorem FR.len {f d : Int} {ts : List (List J1)} (h : FR f d ts) : (SJ f d ts).length ≤ 99014 := by
 have := ak9 ts
 have := h.sm
 unfold SJ
 rw [List.length_append, Sk]
 omega
theorem FR.size {f d : Int} {ts : List (List J1)} (h : FR f d ts) : (uP f d ts).size = (SJ f d ts).length := P_ _
theorem FR.bytes {f d : Int} {ts : List (List J1)} (h : FR f d ts) : bytesOf (uP f d ts) = SJ f d ts := lN (da8 (fun l hl => (h.tr l hl).1))
theorem FR.print {f d : Int} {ts : List (List J1)} (h : FR f d ts) : Ev (fun k => Q5.f k f d ts) (uP f d ts, 0) := by
 refine Ev.ok (an8 f d ts h.small (by have := h.sm; omega)) ?_
 have hl := h.len
 rw [h.check, if_pos rfl]
 unfold fin
 rw [if_neg (by omega)]
 rfl
end Go.Proofs.Ytdmnknhlibaaoaa.Z
namespace Go.Proofs.Ytdmnknhlibaaoaa.Z
open Go.RowKit Go.Proofs.YtdmnknhlibaaoaaW.PrintWords Go.Proofs.YtdmnknhlibaaoaaW.PrintLast Go.Proofs.YtdmnknhlibaaoaaW.PrintMore Go.Proofs.Ytdmnknhlibaaoaa.M
set_option linter.unusedVariables false
theorem da5 (a : Int) (ha : 0 ≤ a) : 0 ≤ mn a 300 ∧ mn a 300 ≤ a ∧ mn a 300 ≤ 300 := by
 unfold mn
 split <;> omega
def Ml (n : Nat) (ts : List (List J1)) : Prop := ts.length ≤ n ∧ ∀ l ∈ ts, l.length ≤ 40 ∧ P9 l ≤ 12400
theorem cx5 {n : Nat} {ts : List (List J1)} (h : Ml n ts) (hn : n ≤ 20) : Small ts := ⟨by have := h.1; omega, fun l hl => by have := (h.2 l hl).1; omega⟩
theorem ap3 : ∀ {ts : List (List J1)}, (∀ l ∈ ts, l.length ≤ 40 ∧ P9 l ≤ 12400) → lD ts ≤ 12408 * ts.length
 | [], _ => Nat.zero_le _
 | l :: r, h => by
  have h1 := (h l (by simp)).2
  have h2 := ap3 (ts := r) (fun x hx => h x (by simp [hx]))
  rw [lD, List.length_cons]
  omega
theorem cn3 (l : List J1) (m : J1) : P9 (l ++ [m]) = P9 l + (m.f5.size + 10) := by
 rw [Gm]
 simp [P9]
section
variable (f d : Int) (ts : List (List J1))
def Hl (r : Int × Int × List (List J1)) : Prop := r.1 = f ∧ r.2.1 = d ∧ Ml 20 r.2.2
theorem as2 (out : List (List J1)) (i : Nat) (hi : i < ts.length) (h20 : i < 20) (ho : out.length ≤ 20)
 (hn : ∀ l : List J1, l.length ≤ 40 → P9 l ≤ 12400 → ∃ r, Ev (fun k => I2.l0 k ((i : Int) + 1) f d ts f d (out ++ [l])) r ∧ Hl f d r) : ∀ (j q : Nat) (l : List J1), q + j = 40 → l.length = q → P9 l ≤ 310 * q →
 ∃ r, Ev (fun k => I2.l1 k (i : Int) l (q : Int) f d ts f d out) r ∧ Hl f d r
 | j, q, l, hj, hl, ht => by
  have hw : wrap64 ((i : Int) + 1) = (i : Int) + 1 := U3 (by omega) (by omega)
  have Kt : ∀ r, Ev (fun k => I2.l0 k ((i : Int) + 1) f d ts f d (out ++ [l])) r → Ev (fun k => if out.length < 5864062014805 then I2.l0 k (wrap64 ((i : Int) + 1)) f d ts f d (out ++ [l]) else none) r := by
   intro r h
   rw [hw]
   exact Ev.yes (by omega) h
  by_cases c : (q : Int) < ((L0 ts (i : Int)).length : Int)
  ·by_cases GC : q < 40
   ·obtain ⟨j, rfl⟩ : ∃ m, j = m + 1 := ⟨j - 1, by omega⟩
    obtain ⟨m0, m1, m2⟩ := da5 (((U (L0 ts (i : Int)) (q : Int)).f5).size : Int) (by omega)
    have hz : (((U (L0 ts (i : Int)) (q : Int)).f5).extract 0 ((mn (((U (L0 ts (i : Int)) (q : Int)).f5).size : Int) 300) : Int).toNat).size ≤ 300 := by
     rw [ByteArray.size_extract]
     omega
    obtain ⟨r, hr, rO⟩ := as2 out i hi h20 ho hn j (q + 1) (l ++ [⟨(U (L0 ts (i : Int)) (q : Int)).f0, (U (L0 ts (i : Int)) (q : Int)).f1, (U (L0 ts (i : Int)) (q : Int)).f2, (U (L0 ts (i : Int)) (q : Int)).f3, (U (L0 ts (i : Int)) (q : Int)).f4, ((U (L0 ts (i : Int)) (q : Int)).f5).extract 0 ((mn (((U (L0 ts (i : Int)) (q : Int)).f5).size : Int) 300) : Int).toNat⟩]) (by omega) (by rw [List.length_append, List.length_singleton, hl]) (by rw [cn3]; dsimp only; omega)
    refine ⟨r, Ev.step (fun k => by rw [I2.l1]) ?_, rO⟩
    refine Ev.yes (by omega) (Ev.yes (by omega) (Ev.yes c (Ev.yes (by omega) (Ev.yes (by omega) (Ev.yes m0 (Ev.yes m1 (Ev.yes (by omega) ?_)))))))
    rw [show wrap64 ((q : Int) + 1) = ((q + 1 : Nat) : Int) from (U3 (by omega) (by omega)).trans (by omega)]
    exact hr
   ·obtain ⟨r, hr, rO⟩ := hn l (by omega) (by omega)
    refine ⟨r, Ev.step (fun k => by rw [I2.l1]) ?_, rO⟩
    exact Ev.yes (by omega) (Ev.yes (by omega) (Ev.yes c (Ev.no (by omega) (Kt r hr))))
  ·obtain ⟨r, hr, rO⟩ := hn l (by omega) (by omega)
   refine ⟨r, Ev.step (fun k => by rw [I2.l1]) ?_, rO⟩
   exact Ev.yes (by omega) (Ev.yes (by omega) (Ev.no c (Kt r hr)))
 termination_by j => j
 decreasing_by all_goals omega
theorem am2 : ∀ (j i : Nat) (out : List (List J1)), i + j = 20 → out.length = i → Ml 20 out → ∃ r, Ev (fun k => I2.l0 k (i : Int) f d ts f d out) r ∧ Hl f d r
 | j, i, out, hj, ho, hF => by
  have AH : Ev (fun k => I2.j1 k (i : Int) false f d ts f d out) (f, d, out) := by
   refine Ev.step (fun k => by rw [I2.j1]) ?_
   exact Ev.no (by decide) (Ev.now _)
  by_cases c : (i : Int) < (ts.length : Int)
  ·by_cases K5 : i < 20
   ·obtain ⟨j, rfl⟩ : ∃ m, j = m + 1 := ⟨j - 1, by omega⟩
    obtain ⟨r, hr, rO⟩ := as2 f d ts out i (by omega) K5 (by omega) (fun l h1 h2 => by
     have h := am2 j (i + 1) (out ++ [l]) (by omega) (by rw [List.length_append, List.length_singleton, ho]) ⟨XQ, fun x hx => by
      rcases List.mem_append.mp hx with h | h
      ·exact hF.2 x h
      ·rw [List.mem_singleton.mp h]; exact ⟨h1, h2⟩⟩
     rw [show ((i + 1 : Nat) : Int) = (i : Int) + 1 by omega] at h
     exact h) 40 0 [] (by omega) rfl (Nat.le_refl _)
    refine ⟨r, Ev.step (fun k => by rw [I2.l0]) ?_, rO⟩
    refine Ev.yes c ?_
    rw [decide_eq_true (show (i : Int) < 20 by omega)]
    refine Ev.step (fun k => by rw [I2.j1]) ?_
    exact Ev.yes rfl hr
   ·refine ⟨(f, d, out), Ev.step (fun k => by rw [I2.l0]) ?_, rfl, rfl, hF⟩
    refine Ev.yes c ?_
    rw [decide_eq_false (show ¬ (i : Int) < 20 by omega)]
    exact AH
  ·refine ⟨(f, d, out), Ev.step (fun k => by rw [I2.l0]) ?_, rfl, rfl, hF⟩
   exact Ev.no c AH
 termination_by j => j
 decreasing_by all_goals omega
theorem ar2 : ∃ cV : List (List J1), Ev (fun k => I2.f k f d ts) (f, d, cV) ∧ Small cV ∧ lD cV ≤ 1000000000 := by
 obtain ⟨⟨a, b, cV⟩, h, rfl, rfl, hF⟩ := am2 f d ts 20 0 [] (by omega) rfl ⟨by simp, fun l hl => by cases hl⟩
 refine ⟨cV, h, cx5 hF (by omega), ?_⟩
 have h1 := ap3 hF.2
 have h2 := hF.1
 dsimp only at h1 h2
 omega
end
end Go.Proofs.Ytdmnknhlibaaoaa.Z
namespace Go.Proofs.Ytdmnknhlibaaoaa.Z
open Go.RowKit Go.Proofs.YtdmnknhlibaaoaaW.PrintWords Go.Proofs.YtdmnknhlibaaoaaW.PrintLast Go.Proofs.YtdmnknhlibaaoaaW.PrintMore Go.Proofs.Ytdmnknhlibaaoaa.M
set_option linter.unusedVariables false
theorem cr2 (a : Int) (ha : 0 ≤ a) : 0 ≤ mn a 600 ∧ mn a 600 ≤ a := by
 unfold mn
 split <;> omega
theorem smfTells {f d f' d' : Int} {L L' : List (List J1)} {s : ByteArray} {at_ BW : Int} (hf : iH f) (hd : iH d) (hL : tV L) (hf' : iH f') (Fw : iH d') (hL' : tV L') (hs : s.size ≤ 140737488351232) (ha : iH at_) (h0 : 0 ≤ BW) (h1 : BW ≤ 255) :
 Ev (fun k => yD.f k f d L f' d' L' s at_ BW) true := by
 obtain ⟨f1, d1, a, e1, g1⟩ := cw0 hf hd hL
 have hR := cy9 g1
 obtain ⟨A, hA, Ji, hAt⟩ := ar2 f d L
 obtain ⟨B, hB, hBs, hBt⟩ := ar2 f' d' L'
 have G := hR.len
 have hz := hR.size
 have ND : (SJ f1 d1 a).length ≥ 14 := by
  unfold SJ
  rw [List.length_append, Sk]
  omega
 have qQ : lD a ≤ 1000000000 := by have := hR.sm; omega
 obtain ⟨m0, m1⟩ := cr2 (s.size : Int) (by omega)
 obtain ⟨q, eq, q0, q1⟩ := VJ ha (n := ((uP f1 d1 a).size : Int)) (by omega)
 have hw : wrap64 (q + 1) = q + 1 := U3 (by omega) (by omega)
 have vJ : ((uP f1 d1 a).extract 0 (q : Int).toNat).size ≤ 99014 := by rw [ByteArray.size_extract]; omega
 have Uy : ((uP f1 d1 a).extract (q + 1 : Int).toNat (uP f1 d1 a).size).size ≤ 99014 := by rw [ByteArray.size_extract]; omega
 have Ds : (strOfNums [BW]).size = 1 := by rw [P_]; rfl
 unfold yD.f
 refine Ev.bind da9 (Ev.yes rfl (Ev.bind e1 ?_))
 dsimp only
 refine Ev.bind hR.print (Ev.yes rfl (Ev.bind hA ?_))
 dsimp only
 refine Ev.bind (ah0 f d A Ji hAt) (Ev.yes rfl (Ev.bind (ah0 f1 d1 a hR.small qQ) (Ev.yes rfl (Ev.yes m0 (Ev.yes m1 (Ev.bind (xR _) (Ev.yes rfl (Ev.bind (xR _) (Ev.yes rfl (Ev.bind (Ev.eq eq) ?_))))))))))
 refine Ev.yes q0 (Ev.yes (by omega) (Ev.bind (xR _) (Ev.yes rfl (Ev.bind (Ev.now _) ?_))))
 rw [hw]
 refine Ev.yes (by omega) (Ev.yes (by omega) (Ev.yes (by omega) (Ev.yes (by rw [ByteArray.size_append]; omega) (Ev.bind (xR _) (Ev.yes rfl (Ev.yes (by omega) (Ev.bind (xR _) (Ev.yes rfl (Ev.bind (Ev.now _) ?_)))))))))
 refine Ev.yes (by omega) (Ev.bind (xR _) (Ev.yes rfl (Ev.bind hA (Ev.bind hB ?_))))
 dsimp only
 refine Ev.bind (aq1 f d A f' d' B Ji) (Ev.bind hA (Ev.bind hB ?_))
 dsimp only
 exact Ev.bind (ct3 f d f' d' A B Ji) (Ev.ok (Ev.now _) (by simp))
end Go.Proofs.Ytdmnknhlibaaoaa.Z
namespace Go.Proofs.Ytdmnknhlibaaoaa.R
open Go.RowKit Go.Proofs.YtdmnknhlibaaoaaW.PrintWords Go.ChangeShapes Go.WideShapes Go.Deep
section
variable {H : Type} (enc : TypeId × Value → H) (P : Program) (w : World)
def rR {α : Type} (t : TypeId) (d : Kd α) (Q : α → Prop) : Prop :=
 ∀ (fuel : Nat) (cs : List Value) (y : DataW H × List MemPlace), DataW.trod enc P w 0 (fun _ => true) true fuel t cs = some y → ∃ x, d.K w x cs ∧ Q x
variable {enc P w}
theorem WO {t : TypeId} {k : IntKind} (ht : P.underlying t = some (.int k)) : rR enc P w t (Kd.int k) (fun n => (Lit.int k n).wf = true) := by
 intro fuel cs y h
 obtain ⟨n, SL, _, hw⟩ := DataW.trod_int ht h
 exact ⟨n, SL, hw⟩
theorem cp9 {t : TypeId} (ht : P.underlying t = some .string) : rR enc P w t Kd.string (fun s => s.size ≤ maxLen) := by
 intro fuel cs y h
 obtain ⟨s, SL, _, hw⟩ := DataW.trod_string ht h
 exact ⟨s, SL, hw⟩
theorem ae5 {α : Type} {Φ : Nat → α → Prop} : ∀ n : Nat, (∀ i, i < n → ∃ x, Φ i x) → ∃ xs : List α, xs.length = n ∧ ∀ i x, xs[i]? = some x → Φ i x
 | 0, _ => ⟨[], rfl, fun i x h => by simp at h⟩
 | n + 1, h => by
  obtain ⟨xs, hl, hx⟩ := ae5 n (fun i hi => h i (by omega))
  obtain ⟨x, hn⟩ := h n (by omega)
  refine ⟨xs ++ [x], by simp [hl], fun i z hz => ?_⟩
  by_cases hi : i < n
  ·rw [List.getElem?_append_left (by omega)] at hz
   exact hx i z hz
  ·have l4 := (List.getElem?_eq_some_iff.1 hz).1
   rw [List.length_append, List.length_singleton] at l4
   obtain rfl : i = n := by omega
   rw [List.getElem?_append_right (by omega), hl, Nat.sub_self] at hz
   simp at hz
   rw [← hz]
   exact hn
theorem ak2 {α : Type} {t e : TypeId} {d : Kd α} {Q : α → Prop} (ht : P.underlying t = some (.slice e)) (hC : P.cellsOf e = d.sz) (hE : rR enc P w e d Q) :
 rR enc P w t (Kd.slice e d) (fun xs => ∀ x ∈ xs, Q x) := by
 intro fuel cs y h
 rcases open_slice ht h with ⟨rfl, _⟩ | ⟨a, len, cap, m, n, D, Pl, rfl, _, hl, hm, hmm, _, hel⟩
 ·exact ⟨[], ⟨none, 0, rfl, Nat.le_refl _, rfl, Nat.zero_le _, fun h0 => absurd h0 (Nat.lt_irrefl _)⟩, fun x hx => by cases hx⟩
 ·have hm' : len ≤ m := by rw [hmm]; simp; omega
  obtain ⟨xs, TT, hx⟩ := ae5 (Φ := fun i x => (∃ c, c.length = d.sz ∧ d.K w x c ∧ ∀ j u, c[j]? = some u → w.cell? (a.add (i * d.sz + j)) = some u) ∧ Q x) len (fun i hi => by
   obtain ⟨sT, hc, kM⟩ := hel i (by omega)
   obtain ⟨x, hK, hQ⟩ := hE n sT _ kM
   obtain ⟨_, gQ, O1⟩ := World.cells?_some hc
   rw [hC] at gQ O1
   refine ⟨x, ⟨sT, gQ, hK, fun j u hu => ?_⟩, hQ⟩
   have hj : j < d.sz := by
    have := (List.getElem?_eq_some_iff.1 hu).1
    omega
   have := O1 j hj
   rw [hu, Go.Deep.add_add] at this
   exact this)
  subst TT
  refine ⟨xs, ⟨some a, cap, rfl, hl, rfl, by unfold maxLen at hm; omega, fun _ => ⟨a, rfl, fun j p hp => (hx j p hp).1⟩⟩, fun x hxm => ?_⟩
  obtain ⟨i, hi⟩ := List.getElem?_of_mem hxm
  exact (hx i x hi).2
theorem ae7 {fs : Array Field} {n : Nat} {cs : List Value} {xs : List (DataW H × List MemPlace)} (AL : oneCellFields P fs = true) (hx : xs.length = fs.size)
 (hf : ∀ (i : Nat) (f : Field), fs[i]? = some f → DataW.trod enc P w 0 (fun _ => true) true n f.type ((cs.drop f.offset).take (P.cellsOf f.type)) = xs[i]?) (i : Nat) (f : Field) (hi : fs[i]? = some f) :
 ∃ y, DataW.trod enc P w 0 (fun _ => true) true n f.type ((cs.drop i).take 1) = some y := by
 obtain ⟨ho, X⟩ := hone_of AL i f hi
 have h1 := hf i f hi
 rw [ho, X] at h1
 have l4 : i < xs.length := by rw [hx]; exact (Array.getElem?_eq_some_iff.1 hi).1
 exact ⟨_, h1.trans (List.getElem?_eq_getElem l4)⟩
end
end Go.Proofs.Ytdmnknhlibaaoaa.R
namespace Go.Proofs.Ytdmnknhlibaaoaa.R
open Go.RowKit Go.Proofs.YtdmnknhlibaaoaaW.PrintWords Go.ChangeShapes Go.WideShapes Go.Deep Go.Proofs.Ytdmnknhlibaaoaa.M
set_option linter.unusedVariables false
def In64 (x : Int) : Prop := -9223372036854775808 ≤ x ∧ x ≤ 9223372036854775807
theorem ZM {x : Int} (h : (Lit.int .i64 x).wf = true) : In64 x := by
 simpa [In64, Lit.wf, IntKind.min, IntKind.max, IntKind.signed, IntKind.bits] using h
def as1 (x : N0) : Prop := In64 x.f0 ∧ In64 x.f1 ∧ In64 x.f2 ∧ In64 x.f3 ∧ In64 x.f4
theorem cx6 {H : Type} {enc : TypeId × Value → H} {w : World} : rR enc Try.prog w 28 L3 as1 := by
 intro fuel cs y h
 obtain ⟨xs, n, _, _, hlen, TT, hf⟩ := DataW.trod_struct Try.underlying28 h
 have hC : Try.prog.cellsOf 28 = 6 := by kernel_rfl
 rw [hC] at hlen
 match cs, hlen with
 | [c0, c1, c2, c3, c4, c5], _ =>
  have tJ := ae7 (by kernel_rfl) TT hf
  obtain ⟨y0, t0⟩ := tJ 0 _ rfl
  obtain ⟨y1, t1⟩ := tJ 1 _ rfl
  obtain ⟨y2, t2⟩ := tJ 2 _ rfl
  obtain ⟨y3, t3⟩ := tJ 3 _ rfl
  obtain ⟨y4, t4⟩ := tJ 4 _ rfl
  obtain ⟨y5, t5⟩ := tJ 5 _ rfl
  obtain ⟨x0, k0, q0⟩ := WO Try.underlying3 _ _ _ t0
  obtain ⟨x1, k1, q1⟩ := WO Try.underlying3 _ _ _ t1
  obtain ⟨x2, k2, q2⟩ := WO Try.underlying3 _ _ _ t2
  obtain ⟨x3, k3, q3⟩ := WO Try.underlying3 _ _ _ t3
  obtain ⟨x4, k4, q4⟩ := WO Try.underlying3 _ _ _ t4
  obtain ⟨x5, k5, _⟩ := cp9 Try.underlying9 _ _ _ t5
  have e0 : [c0] = [Value.int .i64 x0] := k0
  have e1 : [c1] = [Value.int .i64 x1] := k1
  have e2 : [c2] = [Value.int .i64 x2] := k2
  have e3 : [c3] = [Value.int .i64 x3] := k3
  have e4 : [c4] = [Value.int .i64 x4] := k4
  have e5 : [c5] = [Value.string x5] := k5
  injection e0 with e0 _
  injection e1 with e1 _
  injection e2 with e2 _
  injection e3 with e3 _
  injection e4 with e4 _
  injection e5 with e5 _
  subst e0 e1 e2 e3 e4 e5
  exact ⟨⟨x0, x1, x2, x3, x4, x5⟩, cy3 w ⟨x0, x1, x2, x3, x4, x5⟩, ZM q0, ZM q1, ZM q2, ZM q3, ZM q4⟩
structure fR where
 f0 : Int
 f1 : Int
 f2 : List (List N0)
def GZ : Kd fR := Kd.iso (Kd.pair (Kd.int .i64) (Kd.pair (Kd.int .i64) (Kd.slice 30 (Kd.slice 28 L3)))) (fun x : fR => (x.f0, x.f1, x.f2))
theorem am7 {w : World} {x : fR} {cs : List Value} (h : GZ.K w x cs) : ∃ A c, cs = [.int .i64 x.f0, .int .i64 x.f1, .slice A x.f2.length c] ∧ x.f2.length ≤ c ∧ Kd.C (Kd.slice 28 L3) w A x.f2.length x.f2 := by
 obtain ⟨_, _, rfl, rfl, ⟨_, _, rfl, rfl, ⟨A, c, rfl, hl, hC⟩⟩⟩ := h
 exact ⟨A, c, rfl, hl, hC⟩
def Vl (x : fR) : Prop := In64 x.f0 ∧ In64 x.f1 ∧ ∀ l ∈ x.f2, ∀ m ∈ l, as1 m
theorem ak0 {H : Type} {enc : TypeId × Value → H} {w : World} : rR enc Try.prog w 24 GZ Vl := by
 intro fuel cs y h
 obtain ⟨xs, n, _, _, hlen, TT, hf⟩ := DataW.trod_struct Try.underlying24 h
 have hC : Try.prog.cellsOf 24 = 3 := by kernel_rfl
 rw [hC] at hlen
 match cs, hlen with
 | [c0, c1, c2], _ =>
  have tJ := ae7 (by kernel_rfl) TT hf
  obtain ⟨y0, t0⟩ := tJ 0 _ rfl
  obtain ⟨y1, t1⟩ := tJ 1 _ rfl
  obtain ⟨y2, t2⟩ := tJ 2 _ rfl
  obtain ⟨x0, k0, q0⟩ := WO Try.underlying3 _ _ _ t0
  obtain ⟨x1, k1, q1⟩ := WO Try.underlying3 _ _ _ t1
  obtain ⟨x2, k2, q2⟩ := ak2 (d := Kd.slice 28 L3) Try.underlying22 (by kernel_rfl) (ak2 (d := L3) Try.underlying30 (by kernel_rfl) cx6) _ _ _ t2
  have e0 : [c0] = [Value.int .i64 x0] := k0
  have e1 : [c1] = [Value.int .i64 x1] := k1
  obtain ⟨A, c, e2_, hl, hCC⟩ := k2
  have e2 : [c2] = [Value.slice A x2.length c] := e2_
  clear e2_
  injection e0 with e0 _
  injection e1 with e1 _
  injection e2 with e2 _
  subst e0 e1 e2
  refine ⟨⟨x0, x1, x2⟩, ⟨[_], [_, _], rfl, rfl, ⟨[_], [_], rfl, rfl, ⟨A, c, rfl, hl, hCC⟩⟩⟩, ZM q0, ZM q1, q2⟩
end Go.Proofs.Ytdmnknhlibaaoaa.R
