/- Words printed by the kit (print.sh), only those that the laws here name. -/
import Derived.Below
import Derived.Deep.Draws
import Derived.Deep.AppendLies
import Derived.Maps.AppendAt
import Derived.OwnWalk
import Derived.Laws.BytesArg
import Derived.Laws.MakeOwn
import Derived.Laws.OwnMore
import Derived.Deep.OwnRows
import Derived.Tactics
import Derived.Lib.ConvBytes
import Derived.Laws.Slices
import Derived.WalkKit
import Derived.KernelRfl
import Derived.RowKit3
import Derived.Deep.LoopGhost
import Derived.Deep.QuietTactic
import Derived.BigQuiet
import Derived.WideLaws
import Derived.Deep.DeepCutAuto
import Derived.Deep.CutBlock
import Derived.Deep.RegionHeld3
import Derived.Laws.Rows
import Derived.Lib.AppendStr
import Derived.ArgAppend
import Derived.Laws.IdiomCopy
import Derived.RowKit
import Derived.OrdersHeld
import Derived.Laws.BitsLemmas
import Derived.Laws.StructEq
set_option linter.unusedVariables false
set_option linter.unusedSimpArgs false
namespace Go.Proofs.YtdmnknhlibaaoaaW.PrintWords
open Go.RowKit
structure Aside0 (p : Prop) : Prop where mk :: (out : p)
structure E_ (w w' : World) : Prop where mk :: (out : ∃ n, w' = w.drewN n)
theorem E_.refl (w : World) : E_ w w := ⟨⟨0, rfl⟩⟩
theorem E_.step {w w' : World} (h : E_ w w') (n : Nat) : E_ w (w'.drewN n) := by
 obtain ⟨m, rfl⟩ := h
 exact ⟨⟨m + n, World.drewN_drewN ..⟩⟩
theorem E_.grown {w w' : World} (h : E_ w w') : Grown w w' := by
 obtain ⟨n, rfl⟩ := h
 induction n with
 | zero => exact Grown.refl _
 | succ n ih => rw [← World.drew_drewN]; exact Grown.drew ih
theorem E_.below {w w' : World} (h : E_ w w') : Below w.heap.size w w' := by
 obtain ⟨n, rfl⟩ := h
 induction n with
 | zero => exact Below.refl _ _
 | succ n ih => rw [← World.drew_drewN]; exact ih.drew
def rd (xs : List Int) (i : Int) : Int := xs.getD i.toNat 0
def bt (s : ByteArray) (i : Int) : Int := if h : i.toNat < s.size then ((s[i.toNat]'h).toNat : Int) else 0
theorem K9 (s : ByteArray) (i : Int) : ∀ h : i.toNat < s.size, ((s[i.toNat]'h).toNat : Int) = bt s i := fun h => by simp [bt, h]
theorem aD (s : ByteArray) (i : Int) : 0 ≤ bt s i ∧ bt s i ≤ 255 := by
 unfold bt
 split
 ·rename_i h
  have := (s[i.toNat]'h).toNat_lt
  omega
 ·omega
def BC (k : IntKind) (xs : List Int) : List Value := xs.map fun x => .int k x
theorem Vm (k : IntKind) (xs : List Int) : (BC k xs).length = xs.length := by simp [BC]
theorem BV (k : IntKind) (xs ys : List Int) : BC k (xs ++ ys) = BC k xs ++ BC k ys := by simp [BC]
theorem I6 {w W : World} (h : Below w.heap.size w W) (o : Obj) : Below w.heap.size w (W.alloc o) := h.alloc h.size o
theorem iZ {B : Nat} {w W : World} (h : Below B w W) : Below B w W.drew := ⟨h.os, h.tape, h.output, h.size, h.block⟩
theorem q5 {B : Nat} {w W : World} (h : Below B w W) (n : Nat) : Below B w (W.drewN n) := ⟨h.os, h.tape, h.output, h.size, h.block⟩
theorem cz2 {B : Nat} {w w1 w2 : World} (h : Below B w w1) (hB : B ≤ w1.heap.size) (k : Below w1.heap.size w1 w2) : Below B w w2 :=
 h.trans ⟨k.os, k.tape, k.output, k.size, fun i hi => k.block i (Nat.lt_of_lt_of_le hi hB)⟩
theorem Mn {w w1 : World} (h : Below w.heap.size w w1) (row : Option Nat) : w.grownBy w1 row := ⟨h.os, h.tape, h.output, h.size, fun i hi _ => h.block i hi⟩
theorem Tl {w w1 : World} (h : Below w.heap.size w w1) {a : Addr} {v : Value} (hc : w.cell? a = some v) : w1.cell? a = some v := (h.cell (World.block_lt_of_cell? w a hc)).trans hc
def lF (w : World) (k : IntKind) (A : Option Addr) (n : Nat) (xs : List Int) : Prop :=
 xs.length = n ∧ n ≤ 9223372036854775807 ∧ (0 < n → ∃ ad, A = some ad ∧ ∀ j, j < n → w.cell? (ad.add j) = some (.int k (xs.getD j 0)))
theorem lF.at_ {w : World} {k : IntKind} {A : Option Addr} {n : Nat} {xs : List Int} (h : lF w k A n xs) (i : Int) (h0 : 0 ≤ i) (h1 : i < n) : ∃ ad, A = some ad ∧ w.cell? (ad.add i.toNat) = some (.int k (rd xs i)) := by
 obtain ⟨ad, e, hc⟩ := h.2.2 (by omega)
 exact ⟨ad, e, hc _ (by omega)⟩
theorem lF.below {w w1 : World} {k : IntKind} {A : Option Addr} {n : Nat} {xs : List Int} (h : lF w k A n xs) (G : Below w.heap.size w w1) : lF w1 k A n xs :=
 ⟨h.1, h.2.1, fun hn => by
  obtain ⟨ad, e, hc⟩ := h.2.2 hn
  exact ⟨ad, e, fun j hj => Tl G (hc j hj)⟩⟩
theorem aj4 (W : World) (base : Nat) (e : TypeId) (size : Nat) : W.ownsRow base e size (.slice none 0 0) 0 [] := ⟨by simp, .inl ⟨rfl, rfl⟩⟩
theorem VM {w : World} {base : Nat} {e : TypeId} {size n : Nat} {v : Value} {xs : List Value} (h : w.ownsRow base e size v n xs) (k : Nat) (X : v.ownBlock = some k) : base ≤ k := by
 rcases h.2 with ⟨rfl, _⟩ | ⟨g, cap, cur, rfl, G, _⟩
 ·simp [Value.ownBlock] at X
 ·have : g = k := by simpa [Value.ownBlock] using X
  omega
theorem as6 {w : World} {base : Nat} {e : TypeId} {size n : Nat} {v : Value} {xs : List Value} (h : w.ownsRow base e size v n xs) (k : Nat) (X : v.ownBlock = some k) : k < w.heap.size := by
 rcases h.2 with ⟨rfl, _⟩ | ⟨g, cap, cur, rfl, G, hh, _⟩
 ·simp [Value.ownBlock] at X
 ·have : g = k := by simpa [Value.ownBlock] using X
  subst this
  exact (Array.getElem?_eq_some_iff.1 hh).1
theorem co5 {w w1 : World} {base : Nat} {e : TypeId} {size n : Nat} {v : Value} {xs : List Value} (h : w.ownsRow base e size v n xs) (G : Below w.heap.size w w1) : w1.ownsRow base e size v n xs :=
 h.kept (Mn G none) (by cases v.ownBlock <;> simp)
theorem cu8 {w w1 : World} {base : Nat} {e : TypeId} {size n : Nat} {v : Value} {xs : List Value} (h : w.ownsRow base e size v n xs) {row : Option Nat} (hg : w.grownBy w1 row) (J8 : v.ownBlock = none ∨ v.ownBlock ≠ row) : w1.ownsRow base e size v n xs := h.kept hg J8
theorem vL {P : Program} {w : World} {base n : Nat} {e' src dst e : TypeId} {v : Value} {xs : List Int} (hs : P.underlying src = some (.slice e)) (he : P.underlying e = some (.int .u8)) (hd : P.underlying dst = some .string)
 (h : w.ownsRow base e' 1 v n (BC .u8 xs)) : (convert src dst v).run P w = .ok (.string (strOfNums xs)) w := by
 have hl : xs.length = n := by have := h.1; simp [BC] at this; exact this
 rcases h.2 with ⟨rfl, rfl⟩ | ⟨g, cap, cur, rfl, _⟩
 ·obtain rfl : xs = [] := List.eq_nil_of_length_eq_zero hl
  exact run_convert_bytes_nil w src e hs he 0 0 dst hd
 ·refine run_convert_bytes_arg w src e hs he g 0 n cap xs hl (fun i hi => ?_) dst hd
  have hc := h.cells (g := g) rfl i (.int .u8 (xs.getD i 0)) (by simp [BC, List.getElem?_eq_getElem (show i < xs.length by omega), List.getD_eq_getElem?_getD])
  have ha : (⟨g, 0, none⟩ : Addr).add i = ⟨g, 0 + i, none⟩ := by unfold Addr.add; split <;> simp_all
  rwa [ha] at hc
section
variable {P : Program} {ops : Array Oper} {rest : List Oper} {o : Oper} {a : Act} {Q : Exit → Act → World → Prop}
theorem cx3 {w0 W : World} (base : Nat) (zC : o.guard = none) (s x : Operand) (t e : TypeId) (z : Value) (bytes : Nat)
 (ho : o.op = .call { callee := .builtin .append, args := #[s, x], argTypes := #[t, t] })
 (ht : P.underlying t = some (.slice e)) (LC : (P.info? e).map (fun i => (i.zero, i.size, i.bytes)) = some (some z, 1, bytes)) (hz : z.cells.size = 1) (IA : 0 < bytes)
 (v : Value) (xs : List Value) (y : Value) (hs : a.eval s = v) (hx : a.eval x = .slice (some ⟨W.heap.size, 0, none⟩) 1 1) (h1 : y.oneCell' = true)
 (HO : W.ownsRow base e 1 v xs.length xs) (I : Below base w0 W) (G7 : base ≤ W.heap.size) (hl : (xs.length + 1) * bytes ≤ 140737488355328)
 (h : ∀ v1 w1, w1.ownsRow base e 1 v1 (xs ++ [y]).length (xs ++ [y]) → Below base w0 w1 → W.grownBy w1 v.ownBlock → (v1.ownBlock = v.ownBlock ∨ ∃ b, v1.ownBlock = some b ∧ W.heap.size ≤ b) → wpList P ops Q rest (a.put o.dst v1) w1) :
 wpList P ops Q (o :: rest) a (W.alloc (.cells #[y] e)) := by
 obtain ⟨i0, hi, nE⟩ := Option.map_eq_some_iff.1 LC
 simp only [Prod.mk.injEq] at nE
 obtain ⟨sF, eG, ND⟩ := nE
 have hlen : xs.length + 1 ≤ 140737488355328 := Nat.le_trans (Nat.le_mul_of_pos_right _ IA) hl
 refine wpList_append_own_at (W.alloc (.cells #[y] e)) zC s x t ho base e i0 z 1 bytes ht hi sF eG ND hz (by omega) v xs.length xs hs (HO.alloc _) ⟨W.heap.size, 0, none⟩ 1 1 [y] hx rfl
  (World.news_of_block (cs := #[y]) (t := e) (fr := (0, 0)) (heap_alloc_new W _)) (by simpa using h1) (by simp only [maxLen]; omega) hl (by simp; omega) ?_
 intro v1 w1 G_ hg _ O1
 refine h v1 w1 (by simpa using G_) ((I.alloc G7 _).grown hg (by simp; omega) (VM HO)) (World.grownBy.trans (World.grownBy_alloc W _ _) hg) ?_
 rcases O1 with O1 | O1
 ·exact .inl O1
 ·exact .inr ⟨_, O1, by simp⟩
end
section
variable {P : Program}
end
section
variable {P : Program} {ops : Array Oper} {rest : List Oper} {o : Oper} {a : Act} {Q : Exit → Act → World → Prop}
end
def bytesOf (s : ByteArray) : List Int := s.data.toList.map fun b => (b.toNat : Int)
theorem uV (s : ByteArray) : s.data.toList.length = s.size := by rw [Array.length_toList]; rfl
theorem pH (s : ByteArray) : (bytesOf s).length = s.size := by rw [bytesOf, List.length_map, uV]
theorem Ym (s : ByteArray) (i : Int) : rd (bytesOf s) i = bt s i := by
 unfold rd bt bytesOf
 split
 ·rename_i h
  have h' : i.toNat < s.data.toList.length := by rw [uV]; exact h
  simp [List.getD_eq_getElem?_getD, List.getElem?_eq_getElem h']
  rfl
 ·rename_i h
  have h' : s.data.toList.length ≤ i.toNat := by rw [uV]; omega
  simp [List.getD_eq_getElem?_getD, List.getElem?_eq_none h']
theorem ag1 {B : Nat} {w W : World} (h : Below B w W) (hB : B ≤ W.heap.size) (e : TypeId) (s : ByteArray) : Below B w (Lib.bytesWorld W e s) :=
 h.trans ⟨rfl, rfl, rfl, by rw [Lib.bytesWorld_size]; omega, fun i hi => Lib.bytesWorld_at_old W e s i (by omega)⟩
theorem lF.take_ {w : World} {k : IntKind} {A : Option Addr} {n : Nat} {xs : List Int} (h : lF w k A n xs) (i : Nat) (hi : i ≤ n) : lF w k A i (xs.take i) := by
 refine ⟨by rw [List.length_take, h.1]; omega, by have := h.2.1; omega, fun hp => ?_⟩
 obtain ⟨ad, e, hc⟩ := h.2.2 (by omega)
 refine ⟨ad, e, fun j hj => ?_⟩
 rw [hc j (by omega)]
 simp [List.getD_eq_getElem?_getD, hj]
def F0 {α : Type} (a b : Option α) : Prop := ∀ r, a = some r → b = some r
theorem F0.refl {α : Type} (a : Option α) : F0 a a := fun _ h => h
theorem F0.none {α : Type} (b : Option α) : F0 Option.none b := fun _ h => by cases h
theorem F0.trans {α : Type} {a b c : Option α} (h : F0 a b) (k : F0 b c) : F0 a c := fun r hr => k r (h r hr)
theorem F0.ite {α : Type} {c : Prop} [Decidable c] {a a' b b' : Option α} (h : F0 a a') (k : F0 b b') : F0 (if c then a else b) (if c then a' else b') := by
 split
 ·exact h
 ·exact k
theorem F0.bind {α β : Type} {a a' : Option α} {f f' : α → Option β} (h : F0 a a') (k : ∀ x, F0 (f x) (f' x)) : F0 (a.bind f) (a'.bind f') := by
 intro r hr
 obtain ⟨x, hx, hf⟩ := Option.bind_eq_some_iff.1 hr
 exact Option.bind_eq_some_iff.2 ⟨x, h x hx, k x r hf⟩
theorem F0.map {α β : Type} {a a' : Option α} (f : α → β) (h : F0 a a') : F0 (a.map f) (a'.map f) := by
 intro r hr
 obtain ⟨x, hx, hf⟩ := Option.map_eq_some_iff.1 hr
 exact Option.map_eq_some_iff.2 ⟨x, h x hx, hf⟩
theorem at8 {α : Type} {g : Nat → Option α} (h : ∀ k, F0 (g k) (g (k + 1))) (k : Nat) : ∀ j, F0 (g k) (g (k + j))
 | 0 => F0.refl _
 | j + 1 => (at8 h k j).trans (h (k + j))
theorem cr5 {α : Type} {g : Nat → Option α} (h : ∀ k, F0 (g k) (g (k + 1))) {k k' : Nat} (X : k ≤ k') {r : α} (hr : g k = some r) : g k' = some r := by
 have := at8 h k (k' - k) r hr
 rwa [Nat.add_sub_cancel' X] at this
def J2 {α : Type} (R : α → List Value → Prop) (size : Nat) (ps : List α) (cs : List Value) : Prop :=
 cs.length = ps.length * size ∧ ∀ j p, ps[j]? = some p → R p ((cs.drop (j * size)).take size)
theorem J2.none {α : Type} (R : α → List Value → Prop) (size : Nat) : J2 R size [] [] := ⟨by simp, fun j p h => by simp at h⟩
theorem J2.snoc {α : Type} {R : α → List Value → Prop} {size : Nat} {ps : List α} {cs c : List Value} {p : α} (h : J2 R size ps cs) (hp : R p c) (hc : c.length = size) : J2 R size (ps ++ [p]) (cs ++ c) := by
 refine ⟨by rw [List.length_append, h.1, hc, List.length_append, List.length_singleton, Nat.add_mul, Nat.one_mul], fun j q hq => ?_⟩
 rcases Nat.lt_or_ge j ps.length with hj | hj
 ·rw [List.getElem?_append_left hj] at hq
  have h1 : j * size + size ≤ cs.length := by rw [h.1, ← Nat.succ_mul]; exact Nat.mul_le_mul_right _ hj
  have h2 := h.2 j q hq
  rw [List.drop_append_of_le_length (by omega), List.take_append_of_le_length (by rw [List.length_drop]; omega)]
  exact h2
 ·have hj' : j = ps.length := by
   have := (List.getElem?_eq_some_iff.1 hq).1
   rw [List.length_append, List.length_singleton] at this
   omega
  subst hj'
  have hq' : p = q := by simpa using hq
  subst hq'
  rw [← h.1, List.drop_left, ← hc, List.take_length]
  exact hp
theorem J2.imp_ {α : Type} {R R' : α → List Value → Prop} {size : Nat} {ps : List α} {cs : List Value} (h : J2 R size ps cs) (hR : ∀ p c, R p c → R' p c) : J2 R' size ps cs := ⟨h.1, fun j p hj => hR _ _ (h.2 j p hj)⟩
def vG {α : Type} (R : α → List Value → Prop) (size : Nat) (w : World) (A : Option Addr) (n : Nat) (ps : List α) : Prop :=
 ps.length = n ∧ n ≤ 9223372036854775807 ∧ (0 < n → ∃ ad, A = some ad ∧ ∀ j p, ps[j]? = some p → ∃ c, c.length = size ∧ R p c ∧ ∀ i u, c[i]? = some u → w.cell? (ad.add (j * size + i)) = some u)
theorem vG.get_ {α : Type} {R : α → List Value → Prop} {size : Nat} {w : World} {A : Option Addr} {n : Nat} {ps : List α} (h : vG R size w A n ps) (d : α) (i : Int) (h0 : 0 ≤ i) (h1 : i < n) :
 ∃ ad c, A = some ad ∧ c.length = size ∧ R (ps.getD i.toNat d) c ∧ ∀ j u, c[j]? = some u → w.cell? (ad.add (i.toNat * size + j)) = some u := by
 obtain ⟨ad, e, hc⟩ := h.2.2 (by omega)
 have hl : i.toNat < ps.length := by have := h.1; omega
 obtain ⟨c, hs, hr, EG⟩ := hc i.toNat _ (List.getElem?_eq_getElem hl)
 refine ⟨ad, c, e, hs, ?_, EG⟩
 rw [List.getD_eq_getElem?_getD, List.getElem?_eq_getElem hl]
 exact hr
theorem vG.imp_ {α : Type} {R R' : α → List Value → Prop} {size : Nat} {w w1 : World} {A : Option Addr} {n : Nat} {ps : List α} (h : vG R size w A n ps) (G : Below w.heap.size w w1) (hR : ∀ p c, R p c → R' p c) : vG R' size w1 A n ps :=
 ⟨h.1, h.2.1, fun hn => by
  obtain ⟨ad, e, hc⟩ := h.2.2 hn
  refine ⟨ad, e, fun j p hj => ?_⟩
  obtain ⟨c, hs, hr, EG⟩ := hc j p hj
  exact ⟨c, hs, hR _ _ hr, fun i u hu => Tl G (EG i u hu)⟩⟩
theorem cr3 {α : Type} {R : α → List Value → Prop} {w : World} {base n size : Nat} {e : TypeId} {v : Value} {ps : List α} {cs : List Value} (h : w.ownsRow base e size v n cs) (hR : J2 R size ps cs) (hn : ps.length = n) :
 ∃ A c, v = .slice A n c ∧ vG R size w A n ps := by
 rcases Nat.eq_zero_or_pos n with h0 | h0
 ·rcases h.2 with ⟨rfl, rfl⟩ | ⟨g, cap, cur, rfl, _⟩
  ·exact ⟨none, 0, rfl, hn, by omega, fun hp => absurd hp (by omega)⟩
  ·exact ⟨_, cap, rfl, hn, by omega, fun hp => absurd hp (by omega)⟩
 ·obtain ⟨g, cap, rfl, _, _⟩ := h.form h0
  have hm : n ≤ 9223372036854775807 := by
   rcases h.2 with ⟨_, h1⟩ | ⟨g', fh3, cur, he, _, _, h1, h2, _⟩
   ·omega
   ·simp only [maxLen] at h2
    omega
  refine ⟨_, cap, rfl, hn, hm, fun _ => ⟨_, rfl, fun j p hj => ⟨(cs.drop (j * size)).take size, ?_, hR.2 j p hj, fun i u hu => ?_⟩⟩⟩
  ·have RP := (List.getElem?_eq_some_iff.1 hj).1
   have h1 : j * size + size ≤ cs.length := by rw [hR.1, ← Nat.succ_mul]; exact Nat.mul_le_mul_right _ RP
   rw [List.length_take, List.length_drop]
   omega
  ·refine h.cells (g := g) rfl _ u ?_
   rw [List.getElem?_take] at hu
   split at hu
   ·rw [List.getElem?_drop] at hu
    exact hu
   ·cases hu
theorem pV (ad : Addr) (m j : Nat) (hj : 0 < j) : ad.add (m + j) = ⟨(ad.add m).block, (ad.add m).off + j, none⟩ := by
 unfold Addr.add
 by_cases hm : m = 0
 ·subst hm
  simp [Nat.ne_of_gt hj]
 ·simp [hm, Nat.add_assoc]
section
variable {P : Program} {ops : Array Oper} {rest : List Oper} {o : Oper} {a : Act} {Q : Exit → Act → World → Prop}
theorem ah2 {w0 W : World} (base : Nat) (zC : o.guard = none) (s x : Operand) (t e : TypeId) (z : Value) (size bytes : Nat)
 (ho : o.op = .call { callee := .builtin .append, args := #[s, x], argTypes := #[t, t] })
 (ht : P.underlying t = some (.slice e)) (LC : (P.info? e).map (fun i => (i.zero, i.size, i.bytes)) = some (some z, size, bytes)) (hz : z.cells.size = size) (pE : 0 < size) (IA : 0 < bytes)
 (v : Value) (n : Nat) (xs ys : List Value) (hs : a.eval s = v) (hx : a.eval x = .slice (some ⟨W.heap.size, 0, none⟩) 1 1) (Xh : ys.length = size) (h1 : ∀ u ∈ ys, u.oneCell' = true)
 (HO : W.ownsRow base e size v n xs) (I : Below base w0 W) (G7 : base ≤ W.heap.size) (hl : (n + 1) * bytes ≤ 140737488355328)
 (h : ∀ v1 w1, w1.ownsRow base e size v1 (n + 1) (xs ++ ys) → Below base w0 w1 → W.grownBy w1 v.ownBlock → (v1.ownBlock = v.ownBlock ∨ ∃ b, v1.ownBlock = some b ∧ W.heap.size ≤ b) → wpList P ops Q rest (a.put o.dst v1) w1) :
 wpList P ops Q (o :: rest) a (W.alloc (.cells ys.toArray e)) := by
 obtain ⟨i0, hi, nE⟩ := Option.map_eq_some_iff.1 LC
 simp only [Prod.mk.injEq] at nE
 obtain ⟨sF, eG, ND⟩ := nE
 have hlen : n + 1 ≤ 140737488355328 := Nat.le_trans (Nat.le_mul_of_pos_right _ IA) hl
 refine wpList_append_own_at (W.alloc (.cells ys.toArray e)) zC s x t ho base e i0 z size bytes ht hi sF eG ND hz pE v n xs hs (HO.alloc _) ⟨W.heap.size, 0, none⟩ 1 1 ys hx (by rw [Xh]; simp)
  (by simpa using World.news_of_block (cs := ys.toArray) (t := e) (fr := (0, 0)) (heap_alloc_new W (.cells ys.toArray e))) h1 (by simp only [maxLen]; omega) hl (by simp; omega) ?_
 intro v1 w1 G_ hg _ O1
 refine h v1 w1 G_ ((I.alloc G7 _).grown hg (by simp; omega) (VM HO)) (World.grownBy.trans (World.grownBy_alloc W _ _) hg) ?_
 rcases O1 with O1 | O1
 ·exact .inl O1
 ·exact .inr ⟨_, O1, by simp⟩
end
theorem own_ne {w : World} {base : Nat} {e t : TypeId} {size n g : Nat} {v : Value} {xs : List Value} {cs : Array Value} (h : w.ownsRow base e size v n xs) (hg : w.heap[g]? = some (.cells cs t (0, 0))) (J8 : e ≠ t) : some g ≠ v.ownBlock := by
 rcases h.2 with ⟨rfl, _⟩ | ⟨g', cap, cur, rfl, _, hh, _⟩
 ·simp [Value.ownBlock]
 ·intro he
  have : g = g' := by simpa [Value.ownBlock] using he
  subst this
  rw [hg] at hh
  injection hh with hh
  injection hh with _ ht
  exact J8 ht.symm
theorem cv1 {w : World} {base : Nat} {e : TypeId} {size n : Nat} {v : Value} {xs : List Value} (h : w.ownsRow base e size v n xs) {p : Addr} (J8 : some p.block ≠ v.ownBlock) (u : Value) : (w.setCell p u).ownsRow base e size v n xs := by
 obtain ⟨h1, h2⟩ := h
 refine ⟨h1, ?_⟩
 rcases h2 with h2 | ⟨g, cap, cur, rfl, hg, hh, r⟩
 ·exact .inl h2
 ·exact .inr ⟨g, cap, cur, rfl, hg, by rw [Below.heap_setCell _ _ _ _ (fun e => J8 (by rw [e]; rfl))]; exact hh, r⟩
theorem DB {w : World} {g : Nat} {t : TypeId} {cs : Array Value} (h : w.heap[g]? = some (.cells cs t (0, 0))) (i : Nat) (u : Value) : (w.setCell ⟨g, i, none⟩ u).heap[g]? = some (.cells (cs.setIfInBounds i u) t (0, 0)) := by
 simp [World.setCell, Array.getElem?_modify, h]
theorem P0 {w : World} {g : Nat} {t : TypeId} {cs : Array Value} (h : w.heap[g]? = some (.cells cs t (0, 0))) {p : Addr} (hp : g ≠ p.block) (u : Value) : (w.setCell p u).heap[g]? = some (.cells cs t (0, 0)) := (Below.heap_setCell w p u g hp).trans h
theorem K8 {w : World} {g : Nat} {o : Obj} (h : w.heap[g]? = some o) : g < w.heap.size := (Array.getElem?_eq_some_iff.1 h).1
theorem G0 {w : World} {g : Nat} {t : TypeId} {cs : Array Value} (h : w.heap[g]? = some (.cells cs t (0, 0))) (i : Nat) : w.cell? ⟨g, i, none⟩ = cs[i]? := cell_of_row w g i cs t (0, 0) h
theorem Y0 {w : World} {g : Nat} {t : TypeId} {cs : Array Value} (h : w.heap[g]? = some (.cells cs t (0, 0))) (i : Nat) : w.frozen? ⟨g, i, none⟩ = false := by simp [World.frozen?, h]
theorem U6 {w w1 : World} {g : Nat} {o : Obj} {row : Option Nat} (h : w.heap[g]? = some o) (hg : w.grownBy w1 row) (J8 : some g ≠ row) : w1.heap[g]? = some o := (hg.block g (K8 h) J8).trans h
def F1 (w w' : World) (g : Nat) (row : Option Nat) : Prop := w.heap.size ≤ w'.heap.size ∧ ∀ i, i < w.heap.size → i ≠ g → some i ≠ row → w'.heap[i]? = w.heap[i]?
theorem F1.refl (w : World) (g : Nat) (row : Option Nat) : F1 w w g row := ⟨Nat.le_refl _, fun _ _ _ _ => rfl⟩
theorem F1.of_grown {w w1 : World} {row : Option Nat} (h : w.grownBy w1 row) (g : Nat) : F1 w w1 g row := ⟨h.size, fun i hi _ hr => h.block i hi hr⟩
theorem F1.of_below {w w1 : World} (h : Below w.heap.size w w1) (g : Nat) (row : Option Nat) : F1 w w1 g row := ⟨h.size, fun i hi _ _ => h.block i hi⟩
theorem F1.set_ {w w1 : World} {g : Nat} {row : Option Nat} (h : F1 w w1 g row) (j : Nat) (u : Value) : F1 w (w1.setCell ⟨g, j, none⟩ u) g row :=
 ⟨by simpa [World.setCell] using h.1, fun i hi hg hr => (Below.heap_setCell w1 ⟨g, j, none⟩ u i hg).trans (h.2 i hi hg hr)⟩
theorem F1.trans {w w1 w2 : World} {g : Nat} {row Zg : Option Nat} (h : F1 w w1 g row) (k : F1 w1 w2 g Zg) (hr : Zg = row ∨ ∃ b, Zg = some b ∧ w.heap.size ≤ b) : F1 w w2 g row :=
 ⟨Nat.le_trans h.1 k.1, fun i hi hg hn => by
  refine (k.2 i (Nat.lt_of_lt_of_le hi h.1) hg ?_).trans (h.2 i hi hg hn)
  rcases hr with rfl | ⟨b, rfl, G⟩
  ·exact hn
  ·intro e
   injection e with e
   omega⟩
theorem F1.blk {w w1 : World} {g g' : Nat} {row : Option Nat} {o : Obj} (h : F1 w w1 g row) (G : w.heap[g']? = some o) (hg : g' ≠ g) (hr : some g' ≠ row) : w1.heap[g']? = some o := (h.2 g' (K8 G) hg hr).trans G
theorem F1.own {w w1 : World} {g : Nat} {row : Option Nat} {base : Nat} {e : TypeId} {size n : Nat} {v : Value} {xs : List Value} (h : F1 w w1 g row) (ho : w.ownsRow base e size v n xs) (hg : v.ownBlock ≠ some g) (hr : v.ownBlock = none ∨ v.ownBlock ≠ row) : w1.ownsRow base e size v n xs := by
 obtain ⟨h1, h2⟩ := ho
 refine ⟨h1, ?_⟩
 rcases h2 with h2 | ⟨b, cap, cur, rfl, G, hh, r⟩
 ·exact .inl h2
 ·refine .inr ⟨b, cap, cur, rfl, G, h.blk hh ?_ ?_, r⟩
  ·intro e
   exact hg (by rw [← e]; rfl)
  ·rcases hr with hr | hr
   ·simp [Value.ownBlock] at hr
   ·exact hr
def Ev {α : Type} (g : Nat → Option α) (r : α) : Prop := ∃ K, ∀ k, K ≤ k → g k = some r
theorem Ev.of {α : Type} {g : Nat → Option α} {r : α} (hg : ∀ k, F0 (g k) (g (k + 1))) {k : Nat} (h : g k = some r) : Ev g r := ⟨k, fun _ X => cr5 hg X h⟩
theorem Ev.now {α : Type} (r : α) : Ev (fun _ => some r) r := ⟨0, fun _ _ => rfl⟩
theorem Ev.rounds {α : Type} {g : Nat → Option α} {r : α} (h : Ev g r) : ∃ k, g k = some r := by
 obtain ⟨K, h⟩ := h
 exact ⟨K, h K (Nat.le_refl _)⟩
theorem Ev.bind {α β : Type} {g : Nat → Option α} {f : Nat → α → Option β} {a : α} {r : β} (h : Ev g a) (k : Ev (fun n => f n a) r) : Ev (fun n => (g n).bind (f n)) r := by
 obtain ⟨K, h⟩ := h
 obtain ⟨K', k⟩ := k
 refine ⟨max K K', fun n hn => ?_⟩
 have h1 := h n (by omega)
 have h2 := k n (by omega)
 simp only [h1, Option.bind_some]
 exact h2
theorem Ev.step {α : Type} {g f : Nat → Option α} {r : α} (h : ∀ k, g (k + 1) = f k) (k : Ev f r) : Ev g r := by
 obtain ⟨K, k⟩ := k
 refine ⟨K + 1, fun n hn => ?_⟩
 obtain ⟨m, rfl⟩ : ∃ m, n = m + 1 := ⟨n - 1, by omega⟩
 rw [h]
 exact k m (by omega)
theorem Ev.congr {α : Type} {g f : Nat → Option α} {r : α} (h : ∀ k, g k = f k) (k : Ev f r) : Ev g r := by
 obtain ⟨K, k⟩ := k
 exact ⟨K, fun n hn => (h n).trans (k n hn)⟩
section
variable {P : Program} {ops : Array Oper} {o : Oper} {a : Act} {Q : Exit → Act → World → Prop} {K : Act → World → Prop}
theorem cq4 {w0 W : World} (base : Nat) (hw : Region.wanted o (yielded ops a.tmps) = true) (s x : Operand) (t e : TypeId) (z : Value) (size bytes : Nat)
 (ho : o.op = .call { callee := .builtin .append, args := #[s, x], argTypes := #[t, t] })
 (ht : P.underlying t = some (.slice e)) (LC : (P.info? e).map (fun i => (i.zero, i.size, i.bytes)) = some (some z, size, bytes)) (hz : z.cells.size = size) (pE : 0 < size) (IA : 0 < bytes)
 (v : Value) (n : Nat) (xs ys : List Value) (hs : a.eval s = v) (hx : a.eval x = .slice (some ⟨W.heap.size, 0, none⟩) 1 1) (Xh : ys.length = size) (h1 : ∀ u ∈ ys, u.oneCell' = true)
 (HO : W.ownsRow base e size v n xs) (I : Below base w0 W) (G7 : base ≤ W.heap.size) (hl : (n + 1) * bytes ≤ 140737488355328)
 (h : ∀ v1 w1, w1.ownsRow base e size v1 (n + 1) (xs ++ ys) → Below base w0 w1 → W.grownBy w1 v.ownBlock → (v1.ownBlock = v.ownBlock ∨ ∃ b, v1.ownBlock = some b ∧ W.heap.size ≤ b) → K (a.put o.dst v1) w1) :
 if Region.wanted o (yielded ops a.tmps) = true then Oper.wp P o a (W.alloc (.cells ys.toArray e)) K Q else K (a.put o.dst undef) (W.alloc (.cells ys.toArray e)) := by
 obtain ⟨i0, hi, nE⟩ := Option.map_eq_some_iff.1 LC
 simp only [Prod.mk.injEq] at nE
 obtain ⟨sF, eG, ND⟩ := nE
 have hlen : n + 1 ≤ 140737488355328 := Nat.le_trans (Nat.le_mul_of_pos_right _ IA) hl
 rw [if_pos hw]
 obtain ⟨v1, w1, hr, G_, hg, _, O1⟩ := run_append_own_at (P := P) (W.alloc (.cells ys.toArray e)) base t o.type e i0 z size bytes ht hi sF eG ND hz pE v n xs (HO.alloc _) ⟨W.heap.size, 0, none⟩ 1 1 ys (by rw [Xh]; simp)
  (by simpa using World.news_of_block (cs := ys.toArray) (t := e) (fr := (0, 0)) (heap_alloc_new W (.cells ys.toArray e))) h1 (by simp only [maxLen]; omega) hl (by simp; omega)
 unfold Oper.wp execOp
 simp only [ho, resolve, invoke, builtin, Sem.run_bind, Sem.run_pure, Result.andThen_ok, List.map_toArray, List.map_cons, List.map_nil, hs, hx, hr]
 refine h v1 w1 G_ ((I.alloc G7 _).grown hg (by simp; omega) (VM HO)) (World.grownBy.trans (World.grownBy_alloc W _ _) hg) ?_
 rcases O1 with O1 | O1
 ·exact .inl O1
 ·exact .inr ⟨_, O1, by simp⟩
end
theorem cq9 {w : World} {base SD : Nat} {e : TypeId} {size n : Nat} {v : Value} {xs : List Value} (h : w.ownsRow base e size v n xs) (G : SD ≤ base) : w.ownsRow SD e size v n xs := by
 obtain ⟨h1, h2⟩ := h
 refine ⟨h1, ?_⟩
 rcases h2 with h2 | ⟨g, cap, cur, rfl, hg, r⟩
 ·exact .inl h2
 ·exact .inr ⟨g, cap, cur, rfl, Nat.le_trans G hg, r⟩
section
variable {α : Type} {enc : α → Value} {d : α}
def YH (enc : α → Value) (xs : List α) : List Value := xs.map enc
def cy2 (d : α) (xs : List α) (i : Int) : α := xs.getD i.toNat d
theorem ah4 (xs : List α) : (YH enc xs).length = xs.length := by simp [YH]
def eE (enc : α → Value) (d : α) (w : World) (A : Option Addr) (n : Nat) (xs : List α) : Prop :=
 xs.length = n ∧ n ≤ 9223372036854775807 ∧ (0 < n → ∃ ad, A = some ad ∧ ∀ j, j < n → w.cell? (ad.add j) = some (enc (xs.getD j d)))
theorem eE.at_ {w : World} {A : Option Addr} {n : Nat} {xs : List α} (h : eE enc d w A n xs) (i : Int) (h0 : 0 ≤ i) (h1 : i < n) : ∃ ad, A = some ad ∧ w.cell? (ad.add i.toNat) = some (enc (cy2 d xs i)) := by
 obtain ⟨ad, e, hc⟩ := h.2.2 (by omega)
 exact ⟨ad, e, hc _ (by omega)⟩
theorem eE.below {w w1 : World} {A : Option Addr} {n : Nat} {xs : List α} (h : eE enc d w A n xs) (G : Below w.heap.size w w1) : eE enc d w1 A n xs :=
 ⟨h.1, h.2.1, fun hn => by
  obtain ⟨ad, e, hc⟩ := h.2.2 hn
  exact ⟨ad, e, fun j hj => Tl G (hc j hj)⟩⟩
theorem eE.take_ {w : World} {A : Option Addr} {n : Nat} {xs : List α} (h : eE enc d w A n xs) (i : Nat) (hi : i ≤ n) : eE enc d w A i (xs.take i) := by
 refine ⟨by rw [List.length_take, h.1]; omega, by have := h.2.1; omega, fun hp => ?_⟩
 obtain ⟨ad, e, hc⟩ := h.2.2 (by omega)
 refine ⟨ad, e, fun j hj => ?_⟩
 rw [hc j (by omega)]
 simp [List.getD_eq_getElem?_getD, hj]
end
section
variable {α : Type} {P : Program} {ops : Array Oper} {rest : List Oper} {o : Oper} {a : Act} {Q : Exit → Act → World → Prop}
end
theorem I1 {w : World} {g : Nat} {o : Obj} (h : w.heap[g]? = some o) (o' : Obj) : (w.alloc o').heap[g]? = some o := (Below.heap_alloc w o' g (K8 h)).trans h
theorem M1 {w : World} {g : Nat} {o : Obj} (h : w.heap[g]? = some o) : w.drew.heap[g]? = some o := h
theorem V1 {w : World} {g : Nat} {o : Obj} (h : w.heap[g]? = some o) (n : Nat) : (w.drewN n).heap[g]? = some o := h
theorem O0 {w w1 : World} {g : Nat} {o : Obj} (h : w.heap[g]? = some o) (G : Below w.heap.size w w1) : w1.heap[g]? = some o := (G.block g (K8 h)).trans h
theorem al8 (w : World) (o : Obj) : (w.alloc o).heap[w.heap.size]? = some o := heap_alloc_new w o
section
variable {P : Program}
theorem wG {fn : Func} {p u v : Tmp} {ty : TypeId} (h : fn.results = #[.cell p ty, .tmp u, .tmp v]) (tmps : Array Value) (w : World) (g : Nat) (t : TypeId) (cs : Array Value) (fr : Nat × Nat) (d : TypeDesc)
 (hp : tmps.getD p undef = .pointer (some ⟨g, 0, none⟩)) (hg : w.heap[g]? = some (.cells cs t fr))
 (hu : P.underlying ty = some d) (hd : (match d with | .struct _ | .array _ _ => true | _ => false) = true) (hi : (P.info? ty).map (·.size) = some cs.size) :
 (results fn tmps).run P w = .ok (.tuple #[.agg cs, tmps.getD u undef, tmps.getD v undef]) w := by
 have hp' : tmps[p]?.getD undef = .pointer (some ⟨g, 0, none⟩) := by simpa using hp
 simp [results, h, hp', asAddr, run_loadVar_row w g t ty cs fr d hg hu hd hi]
end
theorem da4 {w : World} {base n m c size : Nat} {e : TypeId} {A : Option Addr} {xs : List Value} (h : w.ownsRow base e size (.slice A m c) n xs) : m ≤ c := by
 rcases h.2 with ⟨he, _⟩ | ⟨g, cap, cur, he, _, _, rQ, _⟩
 ·injection he with _ h2 h3
  omega
 ·injection he with _ h2 h3
  omega
def QA {α : Type} (R : α → List Value → Prop) (e : TypeId) (size : Nat) (w : World) (base : Nat) (v : Value) (ps : List α) : Prop :=
 ∃ inner, w.ownsRow base e size v ps.length inner ∧ J2 R size ps inner
section
variable {α : Type} {R R' : α → List Value → Prop} {e : TypeId} {size : Nat} {w w1 : World} {base : Nat} {v : Value} {ps : List α}
theorem QA.none_ (R : α → List Value → Prop) (e : TypeId) (size : Nat) (w : World) (base : Nat) : QA R e size w base (.slice none 0 0) [] := ⟨[], aj4 _ _ _ _, J2.none _ _⟩
theorem QA.imp_ (h : QA R e size w base v ps) (hR : ∀ p c, R p c → R' p c) : QA R' e size w base v ps := by
 obtain ⟨inner, ho, hr⟩ := h
 exact ⟨inner, ho, hr.imp_ hR⟩
theorem QA.below (h : QA R e size w base v ps) (G : Below w.heap.size w w1) : QA R e size w1 base v ps := by
 obtain ⟨inner, ho, hr⟩ := h
 exact ⟨inner, co5 ho G, hr⟩
theorem QA.other (h : QA R e size w base v ps) {row : Option Nat} (hg : w.grownBy w1 row) (J8 : v.ownBlock = none ∨ v.ownBlock ≠ row) : QA R e size w1 base v ps := by
 obtain ⟨inner, ho, hr⟩ := h
 exact ⟨inner, cu8 ho hg J8, hr⟩
theorem QA.set_ (h : QA R e size w base v ps) {g : Nat} {t : TypeId} {cells : Array Value} (G : w.heap[g]? = some (.cells cells t (0, 0))) (ht : e ≠ t) (j : Nat) (u : Value) : QA R e size (w.setCell ⟨g, j, none⟩ u) base v ps := by
 obtain ⟨inner, ho, hr⟩ := h
 exact ⟨inner, cv1 ho (own_ne ho G ht) u, hr⟩
theorem QA.keep (h : QA R e size w base v ps) {g : Nat} {t : TypeId} {cells : Array Value} (G : w.heap[g]? = some (.cells cells t (0, 0))) (ht : e ≠ t) (X : F1 w w1 g none) : QA R e size w1 base v ps := by
 obtain ⟨inner, ho, hr⟩ := h
 exact ⟨inner, X.own ho (Ne.symm (own_ne ho G ht)) (by cases v.ownBlock <;> simp), hr⟩
theorem QA.reads (h : QA R e size w base v ps) : ∃ A c, v = .slice A ps.length c ∧ ps.length ≤ c ∧ vG R size w A ps.length ps := by
 obtain ⟨inner, ho, hr⟩ := h
 obtain ⟨A, c, rfl, bi7⟩ := cr3 ho hr rfl
 exact ⟨A, c, rfl, da4 ho, bi7⟩
theorem QA.ne_block (h : QA R e size w base v ps) {g : Nat} {t : TypeId} {cells : Array Value} (G : w.heap[g]? = some (.cells cells t (0, 0))) (ht : e ≠ t) : some g ≠ v.ownBlock := by
 obtain ⟨inner, ho, hr⟩ := h
 exact own_ne ho G ht
end
section
variable {P : Program} {ops : Array Oper} {rest : List Oper} {o : Oper} {a : Act} {Q : Exit → Act → World → Prop} {α : Type} {R : α → List Value → Prop}
theorem QA.append {w0 W : World} (base : Nat) (zC : o.guard = none) (s x : Operand) (t e : TypeId) (z : Value) (size bytes : Nat)
 (ho : o.op = .call { callee := .builtin .append, args := #[s, x], argTypes := #[t, t] })
 (ht : P.underlying t = some (.slice e)) (LC : (P.info? e).map (fun i => (i.zero, i.size, i.bytes)) = some (some z, size, bytes)) (hz : z.cells.size = size) (pE : 0 < size) (IA : 0 < bytes)
 (v : Value) (ps : List α) (p : α) (cs : List Value) (hs : a.eval s = v) (hx : a.eval x = .slice (some ⟨W.heap.size, 0, none⟩) 1 1) (hp : R p cs) (SL : cs.length = size) (h1 : ∀ u ∈ cs, u.oneCell' = true)
 (HO : QA R e size W base v ps) (I : Below base w0 W) (G7 : base ≤ W.heap.size) (hl : (ps.length + 1) * bytes ≤ 140737488355328)
 (h : ∀ v1 w1, QA R e size w1 base v1 (ps ++ [p]) → Below base w0 w1 → W.grownBy w1 v.ownBlock → (v1.ownBlock = v.ownBlock ∨ ∃ b, v1.ownBlock = some b ∧ W.heap.size ≤ b) → wpList P ops Q rest (a.put o.dst v1) w1) :
 wpList P ops Q (o :: rest) a (W.alloc (.cells cs.toArray e)) := by
 obtain ⟨inner, G_, hr⟩ := HO
 refine ah2 base zC s x t e z size bytes ho ht LC hz pE IA v ps.length inner cs hs hx SL h1 G_ I G7 hl ?_
 intro v1 w1 cL lE rK RN
 exact h v1 w1 ⟨inner ++ cs, by rw [List.length_append, List.length_singleton]; exact cL, hr.snoc hp SL⟩ lE rK RN
end
section
variable {P : Program} {ops : Array Oper} {o : Oper} {a : Act} {Q : Exit → Act → World → Prop} {K : Act → World → Prop} {α : Type} {R : α → List Value → Prop}
end
theorem vG.inner_ {α : Type} {R : α → List Value → Prop} {size : Nat} {w : World} {ad : Addr} {n : Nat} {ps : List α} (h : vG R size w (some ad) n ps) :
 ∃ inner, J2 R size ps inner ∧ ∀ j u, inner[j]? = some u → w.cell? (ad.add j) = some u := by
 have key : ∀ m, m ≤ ps.length → ∃ inner, J2 R size (ps.take m) inner ∧ ∀ j u, inner[j]? = some u → w.cell? (ad.add j) = some u := by
  intro m
  induction m with
  | zero => exact fun _ => ⟨[], J2.none _ _, fun j u hu => by simp at hu⟩
  | succ m ih =>
   intro hm
   obtain ⟨inner, hr, hc⟩ := ih (by omega)
   obtain ⟨ad', he, EG⟩ := h.2.2 (by have := h.1; omega)
   injection he with he
   subst he
   obtain ⟨c, gQ, hp, QP⟩ := EG m _ (List.getElem?_eq_getElem (show m < ps.length by omega))
   refine ⟨inner ++ c, ?_, fun j u hu => ?_⟩
   ·rw [List.take_succ_eq_append_getElem (show m < ps.length by omega)]
    exact hr.snoc hp gQ
   ·have hil : inner.length = m * size := by rw [hr.1, List.length_take, Nat.min_eq_left (by omega)]
    rcases Nat.lt_or_ge j inner.length with hj | hj
    ·rw [List.getElem?_append_left hj] at hu
     exact hc j u hu
    ·rw [List.getElem?_append_right hj] at hu
     have := QP (j - inner.length) u hu
     rwa [hil, Nat.add_sub_cancel' (by omega)] at this
 obtain ⟨inner, hr, hc⟩ := key ps.length (Nat.le_refl _)
 rw [List.take_length] at hr
 exact ⟨inner, hr, hc⟩
section
variable {α : Type} {P : Program}
end
section
variable {P : Program} {ops : Array Oper} {rest : List Oper} {o : Oper} {a : Act} {Q : Exit → Act → World → Prop}
theorem HZ {w0 W : World} (base : Nat) (zC : o.guard = none) (s x : Operand) (t u e : TypeId)
 (ho : o.op = .call { callee := .builtin .append, args := #[s, x], argTypes := #[t, u] })
 (ht : P.underlying t = some (.slice e)) (hu : P.underlying u = some .string) (LC : (P.info? e).map (fun i => (i.zero, i.size, i.bytes)) = some (some (.int .u8 0), 1, 1))
 (v : Value) (xs : List Int) (y : ByteArray) (hs : a.eval s = v) (hx : a.eval x = .string y)
 (HO : W.ownsRow base e 1 v xs.length (BC .u8 xs)) (I : Below base w0 W) (G7 : base ≤ W.heap.size) (hl : xs.length + y.size ≤ 140737488355328)
 (h : ∀ v1 w1, w1.ownsRow base e 1 v1 (xs ++ bytesOf y).length (BC .u8 (xs ++ bytesOf y)) → Below base w0 w1 → W.grownBy w1 v.ownBlock → wpList P ops Q rest (a.put o.dst v1) w1) :
 wpList P ops Q (o :: rest) a W := by
 obtain ⟨i0, hi, nE⟩ := Option.map_eq_some_iff.1 LC
 simp only [Prod.mk.injEq] at nE
 obtain ⟨sF, eG, ND⟩ := nE
 refine Lib.wpList_append_own_string W zC s x t u ho base e i0 ht hu hi sF eG ND v xs.length (BC .u8 xs) hs HO y hx (by simp only [maxLen]; omega) hl G7 ?_
 intro v1 w1 G_ hg _
 have RC : (xs ++ bytesOf y).length = xs.length + y.size := by rw [List.length_append, pH]
 have hc : BC .u8 (xs ++ bytesOf y) = BC .u8 xs ++ Lib.strCells y := by
  rw [BV]
  congr 1
  simp [BC, bytesOf, Lib.strCells]
 exact h v1 w1 (by rw [RC, hc]; exact G_) (I.grown hg G7 (VM HO)) hg
end
structure Kd (α : Type) where
 sz : Nat
 E : List Nat
 K : World → α → List Value → Prop
 M : World → Nat → (Nat → Prop) → α → List Value → Prop
 K_len : ∀ {w x cs}, K w x cs → cs.length = sz
 K_one : ∀ {w x cs}, K w x cs → ∀ u ∈ cs, u.oneCell' = true
 K_below : ∀ {w w1 : World} {x cs}, Below w.heap.size w w1 → K w x cs → K w1 x cs
 K_of_M : ∀ {w base ok x cs}, M w base ok x cs → K w x cs
 M_mono : ∀ {w base ok ok' x cs}, (∀ k, ok k → ok' k) → M w base ok x cs → M w base ok' x cs
 M_bound : ∀ {w : World} {base ok x cs}, M w base ok x cs → M w base (fun k => ok k ∧ base ≤ k ∧ k < w.heap.size ∧ ∃ q, q ∈ E ∧ ∃ cells, w.heap[k]? = some (.cells cells q (0, 0))) x cs
 M_move : ∀ {w w1 : World} {base ok x cs}, (∀ k, ok k → w1.heap[k]? = w.heap[k]?) → M w base ok x cs → M w1 base ok x cs
 M_lower : ∀ {w base SD ok x cs}, SD ≤ base → M w base ok x cs → M w SD ok x cs
theorem cu6 {w w1 : World} {base : Nat} {e : TypeId} {size n : Nat} {v : Value} {xs : List Value} (h : w.ownsRow base e size v n xs) (hm : ∀ k, v.ownBlock = some k → w1.heap[k]? = w.heap[k]?) : w1.ownsRow base e size v n xs := by
 obtain ⟨h1, h2⟩ := h
 refine ⟨h1, ?_⟩
 rcases h2 with h2 | ⟨g, cap, cur, rfl, hg, hh, r⟩
 ·exact .inl h2
 ·exact .inr ⟨g, cap, cur, rfl, hg, (hm g (by simp [Value.ownBlock])).trans hh, r⟩
theorem af7 {w : World} {base : Nat} {e : TypeId} {size n : Nat} {v : Value} {xs : List Value} (h : w.ownsRow base e size v n xs) (k : Nat) (X : v.ownBlock = some k) : ∃ cells, w.heap[k]? = some (.cells cells e (0, 0)) := by
 rcases h.2 with ⟨rfl, _⟩ | ⟨g, cap, cur, rfl, hg, hh, r⟩
 ·simp [Value.ownBlock] at X
 ·have : g = k := by simpa [Value.ownBlock] using X
  subst this
  exact ⟨cur, hh⟩
namespace Kd
def C {α : Type} (d : Kd α) (w : World) (A : Option Addr) (n : Nat) (xs : List α) : Prop := vG (d.K w) d.sz w A n xs
def R {α : Type} (d : Kd α) (e : Nat) (w : World) (base : Nat) (ok : Nat → Prop) (v : Value) (xs : List α) : Prop :=
 (∀ k, v.ownBlock = some k → ok k) ∧ QA (d.M w base (fun k => ok k ∧ some k ≠ v.ownBlock)) e d.sz w base v xs
section
variable {α : Type} {d : Kd α} {e : Nat} {w w1 : World} {base : Nat} {ok ok' : Nat → Prop} {v : Value} {xs : List α}
theorem cB {A : Option Addr} {n : Nat} (h : d.C w A n xs) (G : Below w.heap.size w w1) : d.C w1 A n xs := vG.imp_ h G (fun _ _ hp => d.K_below G hp)
theorem fI (d : Kd α) (e : Nat) (w : World) (base : Nat) (ok : Nat → Prop) : d.R e w base ok (.slice none 0 0) [] := ⟨fun k X => by simp [Value.ownBlock] at X, QA.none_ _ _ _ _ _⟩
theorem Y5 (h : d.R e w base ok v xs) (b4 : ∀ k, ok k → ok' k) : d.R e w base ok' v xs := ⟨fun k X => b4 k (h.1 k X), h.2.imp_ (fun _ _ hp => d.M_mono (fun k X => ⟨b4 k X.1, X.2⟩) hp)⟩
theorem aI (h : d.R e w base ok v xs) : d.R e w base (fun k => ok k ∧ base ≤ k ∧ k < w.heap.size ∧ ∃ q, q ∈ e :: d.E ∧ ∃ cells, w.heap[k]? = some (.cells cells q (0, 0))) v xs := by
 obtain ⟨h0, inner, ho, hr⟩ := h
 refine ⟨fun k X => ?_, inner, ho, hr.imp_ (fun _ _ hp => d.M_mono (fun k X => ?_) (d.M_bound hp))⟩
 ·obtain ⟨cells, hc⟩ := af7 ho k X
  exact ⟨h0 k X, VM ho k X, as6 ho k X, e, List.mem_cons_self, cells, hc⟩
 ·obtain ⟨⟨h1, h2⟩, h3, h4, q, hq, hc⟩ := X
  exact ⟨⟨h1, h3, h4, q, List.mem_cons_of_mem _ hq, hc⟩, h2⟩
theorem ZQ (h : d.R e w base ok v xs) (hm : ∀ k, ok k → w1.heap[k]? = w.heap[k]?) : d.R e w1 base ok v xs := by
 obtain ⟨h0, inner, ho, hr⟩ := h
 exact ⟨h0, inner, cu6 ho (fun k X => hm k (h0 k X)), hr.imp_ (fun _ _ hp => d.M_move (fun k X => hm k X.1) hp)⟩
theorem j9 {SD : Nat} (h : d.R e w base ok v xs) (G : SD ≤ base) : d.R e w SD ok v xs := by
 obtain ⟨h0, inner, ho, hr⟩ := h
 exact ⟨h0, inner, cq9 ho G, hr.imp_ (fun _ _ hp => d.M_lower G hp)⟩
theorem XO (h : d.R e w base ok v xs) (hm : ∀ k, ok k → k < w.heap.size → w1.heap[k]? = w.heap[k]?) : d.R e w1 base ok v xs :=
 Y5 (ZQ (aI h) (fun k X => hm k X.1 X.2.2.1)) (fun _ X => X.1)
theorem ap8 {x : α} {cs : List Value} (h : d.M w base ok x cs) (hm : ∀ k, ok k → k < w.heap.size → w1.heap[k]? = w.heap[k]?) : d.M w1 base ok x cs :=
 d.M_mono (fun _ X => X.1) (d.M_move (fun k X => hm k X.1 X.2.2.1) (d.M_bound h))
theorem j7 (h : d.R e w base ok v xs) (G : Below w.heap.size w w1) : d.R e w1 base ok v xs := XO h (fun k _ X => G.block k X)
theorem aj5 {x : α} {cs : List Value} (h : d.M w base ok x cs) (G : Below w.heap.size w w1) : d.M w1 base ok x cs := ap8 h (fun k _ X => G.block k X)
theorem ct4 (h : d.R e w base ok v xs) {row : Option Nat} (hg : w.grownBy w1 row) (b4 : ∀ k, ok k → some k ≠ row) : d.R e w1 base ok v xs := XO h (fun k ho X => hg.block k X (b4 k ho))
theorem SB (h : d.R e w base ok v xs) {p : Addr} (b4 : ∀ k, ok k → k ≠ p.block) (u : Value) : d.R e (w.setCell p u) base ok v xs := XO h (fun k ho _ => Below.heap_setCell w p u k (b4 k ho))
theorem cx0 (h : d.R e w base ok v xs) {g : Nat} (X : F1 w w1 g none) (b4 : ∀ k, ok k → k ≠ g) : d.R e w1 base ok v xs := XO h (fun k ho l4 => X.2 k l4 (b4 k ho) (by simp))
theorem kA (h : d.R e w base ok v xs) {g t : Nat} {cells : Array Value} (G : w.heap[g]? = some (.cells cells t (0, 0))) (ht : ∀ q, q ∈ e :: d.E → q ≠ t) : d.R e w base (fun k => ok k ∧ k ≠ g) v xs :=
 Y5 (aI h) (fun k X => ⟨X.1, by
  obtain ⟨_, _, _, q, hq, Dp, hc⟩ := X
  rintro rfl
  rw [hc] at G
  injection G with G
  injection G with _ G
  exact ht q hq G⟩)
theorem Lm (h : d.R e w base ok v xs) : ∃ A c, v = .slice A xs.length c ∧ xs.length ≤ c ∧ d.C w A xs.length xs := by
 obtain ⟨A, c, he, hl, hr⟩ := QA.reads h.2
 exact ⟨A, c, he, hl, hr.imp_ (Below.refl _ _) (fun _ _ hp => d.K_of_M hp)⟩
theorem Q9 (h : d.R e w base ok v xs) : ∃ A c, v = .slice A xs.length c := by
 obtain ⟨A, c, he, _⟩ := Lm h
 exact ⟨A, c, he⟩
theorem Dl (h : d.R e w base ok v xs) : ∃ inner, w.ownsRow base e d.sz v xs.length inner := by
 obtain ⟨_, inner, ho, _⟩ := h
 exact ⟨inner, ho⟩
theorem n9 (h : d.R e w base ok v xs) {g t : Nat} {cells : Array Value} (G : w.heap[g]? = some (.cells cells t (0, 0))) (ht : e ≠ t) : some g ≠ v.ownBlock := QA.ne_block h.2 G ht
end
def scalar {α : Type} (enc : α → Value) (h1 : ∀ x, (enc x).oneCell' = true) : Kd α where
 sz := 1
 E := []
 K := fun _ x cs => cs = [enc x]
 M := fun _ _ _ x cs => cs = [enc x]
 K_len := fun h => by rw [h]; rfl
 K_one := fun h u hu => by
  rw [h] at hu
  rw [List.mem_singleton.1 hu]
  exact h1 _
 K_below := fun _ h => h
 K_of_M := fun h => h
 M_mono := fun _ h => h
 M_bound := fun h => h
 M_move := fun _ h => h
 M_lower := fun _ h => h
def int (k : IntKind) : Kd Int := scalar (Value.int k) (fun _ => rfl)
def bool : Kd Bool := scalar Value.bool (fun _ => rfl)
def string : Kd ByteArray := scalar Value.string (fun _ => rfl)
def slice {α : Type} (e : Nat) (d : Kd α) : Kd (List α) where
 sz := 1
 E := e :: d.E
 K := fun w xs cs => ∃ A c, cs = [.slice A xs.length c] ∧ xs.length ≤ c ∧ d.C w A xs.length xs
 M := fun w base ok xs cs => ∃ v, cs = [v] ∧ d.R e w base ok v xs
 K_len := by
  rintro w x cs ⟨A, c, rfl, _⟩
  rfl
 K_one := by
  rintro w x cs ⟨A, c, rfl, _⟩ u hu
  rw [List.mem_singleton.1 hu]
  rfl
 K_below := by
  rintro w w1 x cs G ⟨A, c, rfl, hl, hr⟩
  exact ⟨A, c, rfl, hl, cB hr G⟩
 K_of_M := by
  rintro w base ok x cs ⟨v, rfl, h⟩
  obtain ⟨A, c, rfl, hl, hr⟩ := Lm h
  exact ⟨A, c, rfl, hl, hr⟩
 M_mono := by
  rintro w base ok ok' x cs b4 ⟨v, rfl, h⟩
  exact ⟨v, rfl, Y5 h b4⟩
 M_bound := by
  rintro w base ok x cs ⟨v, rfl, h⟩
  exact ⟨v, rfl, aI h⟩
 M_move := by
  rintro w w1 base ok x cs hm ⟨v, rfl, h⟩
  exact ⟨v, rfl, ZQ h hm⟩
 M_lower := by
  rintro w base SD ok x cs G ⟨v, rfl, h⟩
  exact ⟨v, rfl, j9 h G⟩
def pair {α β : Type} (a : Kd α) (b : Kd β) : Kd (α × β) where
 sz := a.sz + b.sz
 E := a.E ++ b.E
 K := fun w x cs => ∃ c0 c1, cs = c0 ++ c1 ∧ a.K w x.1 c0 ∧ b.K w x.2 c1
 M := fun w base ok x cs => ∃ c0 c1, cs = c0 ++ c1 ∧ a.M w base ok x.1 c0 ∧ b.M w base ok x.2 c1
 K_len := by
  rintro w x cs ⟨c0, c1, rfl, h0, h1⟩
  rw [List.length_append, a.K_len h0, b.K_len h1]
 K_one := by
  rintro w x cs ⟨c0, c1, rfl, h0, h1⟩ u hu
  rcases List.mem_append.1 hu with hu | hu
  ·exact a.K_one h0 u hu
  ·exact b.K_one h1 u hu
 K_below := by
  rintro w w1 x cs G ⟨c0, c1, rfl, h0, h1⟩
  exact ⟨c0, c1, rfl, a.K_below G h0, b.K_below G h1⟩
 K_of_M := by
  rintro w base ok x cs ⟨c0, c1, rfl, h0, h1⟩
  exact ⟨c0, c1, rfl, a.K_of_M h0, b.K_of_M h1⟩
 M_mono := by
  rintro w base ok ok' x cs b4 ⟨c0, c1, rfl, h0, h1⟩
  exact ⟨c0, c1, rfl, a.M_mono b4 h0, b.M_mono b4 h1⟩
 M_bound := by
  rintro w base ok x cs ⟨c0, c1, rfl, h0, h1⟩
  refine ⟨c0, c1, rfl, a.M_mono ?_ (a.M_bound h0), b.M_mono ?_ (b.M_bound h1)⟩
  ·rintro k ⟨h2, h3, h4, q, hq, hc⟩
   exact ⟨h2, h3, h4, q, List.mem_append_left _ hq, hc⟩
  ·rintro k ⟨h2, h3, h4, q, hq, hc⟩
   exact ⟨h2, h3, h4, q, List.mem_append_right _ hq, hc⟩
 M_move := by
  rintro w w1 base ok x cs hm ⟨c0, c1, rfl, h0, h1⟩
  exact ⟨c0, c1, rfl, a.M_move hm h0, b.M_move hm h1⟩
 M_lower := by
  rintro w base SD ok x cs G ⟨c0, c1, rfl, h0, h1⟩
  exact ⟨c0, c1, rfl, a.M_lower G h0, b.M_lower G h1⟩
def iso {α β : Type} (d : Kd α) (f : β → α) : Kd β where
 sz := d.sz
 E := d.E
 K := fun w x cs => d.K w (f x) cs
 M := fun w base ok x cs => d.M w base ok (f x) cs
 K_len := d.K_len
 K_one := d.K_one
 K_below := d.K_below
 K_of_M := d.K_of_M
 M_mono := d.M_mono
 M_bound := d.M_bound
 M_move := d.M_move
 M_lower := d.M_lower
def bot {α : Type} (sz : Nat) (E : List Nat) : Kd α where
 sz := sz
 E := E
 K := fun _ _ _ => False
 M := fun _ _ _ _ _ => False
 K_len := fun h => h.elim
 K_one := fun h => h.elim
 K_below := fun _ h => h
 K_of_M := fun h => h
 M_mono := fun _ h => h
 M_bound := fun h => h
 M_move := fun _ h => h
 M_lower := fun _ h => h
def upto {α : Type} (F : Kd α → Kd α) (sz : Nat) (E : List Nat) : Nat → Kd α
 | 0 => bot sz E
 | n + 1 => F (upto F sz E n)
theorem ak8 {α : Type} {d : Kd α} {w : World} {A : Option Addr} {n : Nat} {xs : List α} (h : d.C w A n xs) (z : α) (i : Int) (h0 : 0 ≤ i) (h1 : i < n) :
 ∃ ad c, A = some ad ∧ c.length = d.sz ∧ d.K w (xs.getD i.toNat z) c ∧ ∀ j u, c[j]? = some u → w.cell? (ad.add (i.toNat * d.sz + j)) = some u := vG.get_ h z i h0 h1
theorem at0 {α : Type} {d : Kd α} {e base : Nat} {ok okp : Nat → Prop} {W w1 : World} {v v1 : Value} {xs : List α} {p : α} {inner cs : List Value} (h0 : ∀ k, v.ownBlock = some k → ok k) (hr : J2 (d.M W base (fun k => ok k ∧ some k ≠ v.ownBlock)) d.sz xs inner) (hp : d.M W base okp p cs) (YG : ∀ k, okp k → ok k ∧ some k ≠ v.ownBlock) (MC : ∀ k, W.heap.size ≤ k → ok k)
 (G_ : w1.ownsRow base e d.sz v1 (xs.length + 1) (inner ++ cs)) (hg : W.grownBy w1 v.ownBlock) (O1 : v1.ownBlock = v.ownBlock ∨ ∃ b, v1.ownBlock = some b ∧ W.heap.size ≤ b) : d.R e w1 base ok v1 (xs ++ [p]) := by
 have J8 : ∀ k, some k ≠ v.ownBlock → k < W.heap.size → some k ≠ v1.ownBlock := by
  intro k X l4
  rcases O1 with O1 | ⟨b, G, hle⟩
  ·rw [O1]; exact X
  ·rw [G]
   intro he
   injection he with he
   omega
 have step : ∀ {q : α} {c : List Value} {o : Nat → Prop}, d.M W base o q c → (∀ k, o k → ok k ∧ some k ≠ v.ownBlock) → d.M w1 base (fun k => ok k ∧ some k ≠ v1.ownBlock) q c := by
  intro q c o hq ho
  have h1 := d.M_move (w1 := w1) (fun k X => hg.block k X.2.2.1 (ho k X.1).2) (d.M_bound hq)
  exact d.M_mono (fun k X => ⟨(ho k X.1).1, J8 k (ho k X.1).2 X.2.2.1⟩) h1
 refine ⟨fun k X => ?_, inner ++ cs, by rw [List.length_append, List.length_singleton]; exact G_, ?_⟩
 ·rcases O1 with O1 | ⟨b, G, hle⟩
  ·exact h0 k (O1 ▸ X)
  ·rw [G] at X
   injection X with X
   exact MC k (by omega)
 ·exact (hr.imp_ (fun _ _ hq => step hq (fun _ X => X))).snoc (step hp YG) (d.K_len (d.K_of_M hp))
section
variable {P : Program} {ops : Array Oper} {rest : List Oper} {o : Oper} {a : Act} {Q : Exit → Act → World → Prop} {α : Type}
theorem IE (d : Kd α) {w0 W : World} (base : Nat) (zC : o.guard = none) (s x : Operand) (t e : TypeId) (z : Value) (bytes : Nat)
 (ho : o.op = .call { callee := .builtin .append, args := #[s, x], argTypes := #[t, t] })
 (ht : P.underlying t = some (.slice e)) (LC : (P.info? e).map (fun i => (i.zero, i.size, i.bytes)) = some (some z, d.sz, bytes)) (hz : z.cells.size = d.sz) (pE : 0 < d.sz) (IA : 0 < bytes)
 (v : Value) (xs : List α) (p : α) (cs : List Value) (ok okp : Nat → Prop) (hs : a.eval s = v) (hx : a.eval x = .slice (some ⟨W.heap.size, 0, none⟩) 1 1) (hp : d.M W base okp p cs) (YG : ∀ k, okp k → ok k ∧ some k ≠ v.ownBlock) (MC : ∀ k, W.heap.size ≤ k → ok k)
 (HO : d.R e W base ok v xs) (I : Below base w0 W) (G7 : base ≤ W.heap.size) (hl : (xs.length + 1) * bytes ≤ 140737488355328)
 (h : ∀ v1 w1, d.R e w1 base ok v1 (xs ++ [p]) → Below base w0 w1 → W.grownBy w1 v.ownBlock → (v1.ownBlock = v.ownBlock ∨ ∃ b, v1.ownBlock = some b ∧ W.heap.size ≤ b) → wpList P ops Q rest (a.put o.dst v1) w1) :
 wpList P ops Q (o :: rest) a (W.alloc (.cells cs.toArray e)) := by
 obtain ⟨h0, inner, G_, hr⟩ := HO
 refine ah2 base zC s x t e z d.sz bytes ho ht LC hz pE IA v xs.length inner cs hs hx (d.K_len (d.K_of_M hp)) (d.K_one (d.K_of_M hp)) G_ I G7 hl ?_
 intro v1 w1 cL lE rK RN
 exact h v1 w1 (at0 h0 hr hp YG MC cL rK RN) lE rK RN
end
section
variable {P : Program} {ops : Array Oper} {o : Oper} {a : Act} {Q : Exit → Act → World → Prop} {Kc : Act → World → Prop} {α : Type}
theorem af1 (d : Kd α) {w0 W : World} (base : Nat) (hw : Region.wanted o (yielded ops a.tmps) = true) (s x : Operand) (t e : TypeId) (z : Value) (bytes : Nat)
 (ho : o.op = .call { callee := .builtin .append, args := #[s, x], argTypes := #[t, t] })
 (ht : P.underlying t = some (.slice e)) (LC : (P.info? e).map (fun i => (i.zero, i.size, i.bytes)) = some (some z, d.sz, bytes)) (hz : z.cells.size = d.sz) (pE : 0 < d.sz) (IA : 0 < bytes)
 (v : Value) (xs : List α) (p : α) (cs : List Value) (ok okp : Nat → Prop) (hs : a.eval s = v) (hx : a.eval x = .slice (some ⟨W.heap.size, 0, none⟩) 1 1) (hp : d.M W base okp p cs) (YG : ∀ k, okp k → ok k ∧ some k ≠ v.ownBlock) (MC : ∀ k, W.heap.size ≤ k → ok k)
 (HO : d.R e W base ok v xs) (I : Below base w0 W) (G7 : base ≤ W.heap.size) (hl : (xs.length + 1) * bytes ≤ 140737488355328)
 (h : ∀ v1 w1, d.R e w1 base ok v1 (xs ++ [p]) → Below base w0 w1 → W.grownBy w1 v.ownBlock → (v1.ownBlock = v.ownBlock ∨ ∃ b, v1.ownBlock = some b ∧ W.heap.size ≤ b) → Kc (a.put o.dst v1) w1) :
 if Region.wanted o (yielded ops a.tmps) = true then Oper.wp P o a (W.alloc (.cells cs.toArray e)) Kc Q else Kc (a.put o.dst undef) (W.alloc (.cells cs.toArray e)) := by
 obtain ⟨h0, inner, G_, hr⟩ := HO
 refine cq4 base hw s x t e z d.sz bytes ho ht LC hz pE IA v xs.length inner cs hs hx (d.K_len (d.K_of_M hp)) (d.K_one (d.K_of_M hp)) G_ I G7 hl ?_
 intro v1 w1 cL lE rK RN
 exact h v1 w1 (at0 h0 hr hp YG MC cL rK RN) lE rK RN
end
theorem cp7 {α : Type} {enc : α → Value} (xs : List α) : J2 (fun (x : α) (cs : List Value) => cs = [enc x]) 1 xs (YH enc xs) := by
 refine ⟨by simp [YH], fun j p hj => ?_⟩
 obtain ⟨hl, hp⟩ := List.getElem?_eq_some_iff.1 hj
 have hl' : j < (YH enc xs).length := by rw [ah4]; exact hl
 rw [Nat.mul_one, List.drop_eq_getElem_cons hl']
 simp [YH, hp]
theorem bR {α : Type} {enc : α → Value} {h1 : ∀ x, (enc x).oneCell' = true} {e : Nat} {w : World} {base : Nat} {ok : Nat → Prop} {v : Value} {xs : List α} (ho : w.ownsRow base e 1 v xs.length (YH enc xs)) (b4 : ∀ k, v.ownBlock = some k → ok k) : (scalar enc h1).R e w base ok v xs := ⟨b4, YH enc xs, ho, cp7 xs⟩
theorem yG {α : Type} {enc : α → Value} {h1 : ∀ x, (enc x).oneCell' = true} {e : Nat} {w : World} {base : Nat} {ok : Nat → Prop} {v : Value} {xs : List α} (h : (scalar enc h1).R e w base ok v xs) : w.ownsRow base e 1 v xs.length (YH enc xs) := by
 obtain ⟨_, inner, ho, hr⟩ := h
 have : inner = YH enc xs := by
  apply List.ext_getElem?
  intro j
  rcases Nat.lt_or_ge j xs.length with hj | hj
  ·have h2 := hr.2 j _ (List.getElem?_eq_getElem hj)
   have hl : j < inner.length := by have := hr.1; simp [scalar] at this; omega
   have h3 : (inner.drop (j * 1)).take 1 = [enc xs[j]] := h2
   rw [Nat.mul_one, List.drop_eq_getElem_cons hl] at h3
   have h4 : inner[j] = enc xs[j] := by
    have h5 := congrArg List.head? h3
    rw [List.take_succ_cons] at h5
    exact Option.some.inj h5
   rw [List.getElem?_eq_getElem hl, h4]
   simp [YH, List.getElem?_eq_getElem hj]
  ·have h3 : inner.length = xs.length := by have := hr.1; simp [scalar] at this; omega
   rw [List.getElem?_eq_none (by omega), List.getElem?_eq_none (by rw [ah4]; omega)]
 rw [← this]
 exact ho
theorem cq7 {α : Type} {enc : α → Value} {d : α} {h1 : ∀ x, (enc x).oneCell' = true} {w : World} {A : Option Addr} {n : Nat} {xs : List α} (h : (scalar enc h1).C w A n xs) : eE enc d w A n xs := by
 refine ⟨h.1, h.2.1, fun hn => ?_⟩
 obtain ⟨ad, e, hc⟩ := h.2.2 hn
 refine ⟨ad, e, fun j hj => ?_⟩
 have hl : j < xs.length := by have := h.1; omega
 obtain ⟨c, _, hK, EG⟩ := hc j _ (List.getElem?_eq_getElem hl)
 have hK' : c = [enc xs[j]] := hK
 subst hK'
 have := EG 0 _ rfl
 simpa [scalar, List.getD_eq_getElem?_getD, List.getElem?_eq_getElem hl] using this
end Kd
namespace Kd
structure fs9 {α β : Type} (F : Kd α → Kd β) : Prop where
 sz : ∀ d d' : Kd α, d.sz = d'.sz → (F d).sz = (F d').sz
 K : ∀ d d' : Kd α, d.sz = d'.sz → (∀ w x cs, d.K w x cs → d'.K w x cs) → ∀ w x cs, (F d).K w x cs → (F d').K w x cs
 M : ∀ d d' : Kd α, d.sz = d'.sz → (∀ w base ok x cs, d.M w base ok x cs → d'.M w base ok x cs) → ∀ w base ok x cs, (F d).M w base ok x cs → (F d').M w base ok x cs
section
variable {α : Type} {F : Kd α → Kd α} {sz : Nat} {E : List Nat} {hs : ∀ n, (upto F sz E n).sz = sz} {hE : ∀ n q, q ∈ (upto F sz E n).E → q ∈ E}
end
end Kd
namespace Kd
theorem QB {α : Type} {d : Kd α} {e base : Nat} {ok : Nat → Prop} {W w1 : World} {u v v1 : Value} {xs : List α} (h : d.R e W base (fun k => ok k ∧ some k ≠ v.ownBlock) u xs) (hg : W.grownBy w1 v.ownBlock) (O1 : v1.ownBlock = v.ownBlock ∨ ∃ b, v1.ownBlock = some b ∧ W.heap.size ≤ b) : d.R e w1 base (fun k => ok k ∧ some k ≠ v1.ownBlock) u xs := by
 refine Y5 (ZQ (aI h) (fun k X => hg.block k X.2.2.1 X.1.2)) (fun k X => ⟨X.1.1, ?_⟩)
 rcases O1 with O1 | ⟨b, G, hle⟩
 ·rw [O1]; exact X.1.2
 ·rw [G]
  intro he
  injection he with he
  have := X.2.2.1
  omega
theorem Ul {α : Type} {d : Kd α} {e base : Nat} {ok : Nat → Prop} {w : World} {v : Value} {xs : List α} (h : d.R e w base ok v xs) : (slice e d).M w base ok xs [v] := ⟨v, rfl, h⟩
end Kd
namespace Kd
section
variable {α β : Type} {d : Kd α} {d' : Kd β} {e e' : Nat} {w w1 W : World} {base b b' : Nat} {ok ok' BQ Uz : Nat → Prop} {v u : Value} {xs : List α} {ys : List β}
theorem GE (h : d.R e w base ok v xs) (o : Obj) : d.R e (w.alloc o) base ok v xs := j7 h (I6 (Below.refl _ _) o)
theorem EE (h : d.R e w base ok v xs) : d.R e w.drew base ok v xs := j7 h (iZ (Below.refl _ _))
theorem dE (h : d.R e w base ok v xs) (m : Nat) : d.R e (w.drewN m) base ok v xs := j7 h (q5 (Below.refl _ _) m)
theorem LA {A : Option Addr} {n : Nat} (h : d.C w A n xs) (o : Obj) : d.C (w.alloc o) A n xs := cB h (I6 (Below.refl _ _) o)
theorem KA {A : Option Addr} {n : Nat} (h : d.C w A n xs) : d.C w.drew A n xs := cB h (iZ (Below.refl _ _))
theorem MA {A : Option Addr} {n : Nat} (h : d.C w A n xs) (m : Nat) : d.C (w.drewN m) A n xs := cB h (q5 (Below.refl _ _) m)
theorem as7 (d : Kd α) (w : World) : d.C w none ([] : List α).length [] := ⟨rfl, by simp, fun h => absurd h (Nat.lt_irrefl 0)⟩
theorem n_ {A : Option Addr} {n c : Nat} (h : d.R e w base ok (.slice A n c) xs) : n = xs.length ∧ n ≤ c ∧ d.C w A xs.length xs := by
 obtain ⟨A', c', he, hl, hr⟩ := Lm h
 injection he with h1 h2 h3
 subst h1
 exact ⟨h2, by omega, hr⟩
theorem D_ (h : d.R e w base ok v xs) : ∀ k, v.ownBlock = some k → k < w.heap.size := by
 obtain ⟨inner, ho⟩ := Dl h
 exact as6 ho
theorem A_ (h : d.R e w base ok v xs) : ∀ k, v.ownBlock = some k → base ≤ k := by
 obtain ⟨inner, ho⟩ := Dl h
 exact VM ho
theorem aq2 (h : d.R e w base ok v xs) {g : Nat} (b4 : ∀ k, ok k → k ≠ g) : some g ≠ v.ownBlock := fun e => b4 g (h.1 g e.symm) rfl
end
section
variable {w W : World} {A : Option Addr} {n : Nat}
theorem XH {k : IntKind} {xs : List Int} (h : (Kd.int k).C w A n xs) (i : Int) (h0 : 0 ≤ i) (h1 : i < n) : ∃ ad, A = some ad ∧ w.cell? (ad.add i.toNat) = some (.int k (rd xs i)) :=
 eE.at_ (cq7 (enc := Value.int k) (d := (0 : Int)) (h1 := fun _ => rfl) h) i h0 h1
variable {α : Type} {enc : α → Value} {h1 : ∀ x, (enc x).oneCell' = true} {e base g cap : Nat} {ok : Nat → Prop} {xs : List α}
end
section
variable {P : Program} {ops : Array Oper} {rest : List Oper} {o : Oper} {a : Act} {Q : Exit → Act → World → Prop}
theorem ak6 {W w1 : World} {v : Value} (zC : o.guard = none) (VA : (execOp a.eval o).run P W = .ok (.value v) w1) (h : wpList P ops Q rest (a.put o.dst v) w1) : wpList P ops Q (o :: rest) a W := by
 refine wpList_plain zC fun K hK => ?_
 unfold Oper.wp
 rw [VA]
 exact hK _ _ h
variable {α : Type}
theorem PF (d : Kd α) {w0 W : World} (base e : Nat) (zC : o.guard = none) {N : Tmp} (bU : o.dst = some N) {xs : List α} {inner : List Value} {ok okp : Nat → Prop}
 (VA : (execOp a.eval o).run P W = .ok (.value (.slice (some ⟨W.heap.size, 0, none⟩) xs.length xs.length)) (W.alloc (.cells inner.toArray e)))
 (XL : J2 (d.M W base okp) d.sz xs inner) (b4 : ∀ k, okp k → ok k) (MC : ok W.heap.size) (I : Below base w0 W) (G7 : base ≤ W.heap.size) (hm : xs.length ≤ 9223372036854775807)
 (h : ∀ v1 w1, d.R e w1 base ok v1 xs → Below base w0 w1 → W.grownBy w1 none → (∃ b, v1.ownBlock = some b ∧ W.heap.size ≤ b) → wpList P ops Q rest (a.put o.dst v1) w1) : wpList P ops Q (o :: rest) a W := by
 refine ak6 zC VA (h _ _ ⟨fun k X => ?_, inner, ?_, ?_⟩ (I.alloc G7 _) (World.grownBy_alloc W _ none) ⟨W.heap.size, by simp [Value.ownBlock], Nat.le_refl _⟩)
 ·have : W.heap.size = k := by simpa [Value.ownBlock] using X
  subst this
  exact MC
 ·have h2 := World.ownsRow_lit (base := base) (e := e) (size := d.sz) W inner.toArray xs.length G7 (by simpa [maxLen] using hm) (by simpa using XL.1)
  simpa using h2
 ·refine XL.imp_ (fun p c hp => d.M_mono (fun k X => ⟨b4 k X.1, fun he => ?_⟩) (aj5 (d.M_bound hp) (I6 (Below.refl _ _) _)))
  have h3 : k = W.heap.size := by simpa [Value.ownBlock] using he
  have := X.2.2.1
  omega
end
end Kd
section
variable {P : Program}
end
def as9 (w : World) (base : Nat) (e : TypeId) (size : Nat) (v : Value) (n : Nat) (xs : List Value) : Prop :=
 xs.length = n * size ∧
 ((n = 0 ∧ ∃ A, v = .slice A 0 0 ∧ ∀ a, A = some a → base ≤ a.block ∧ ∃ cur, w.heap[a.block]? = some (.cells cur e (0, 0))) ∨
  ∃ g off cap cur, v = .slice (some ⟨g, off * size, none⟩) n cap ∧ base ≤ g ∧ w.heap[g]? = some (.cells cur e (0, 0)) ∧ n ≤ cap ∧ off + cap ≤ maxLen ∧ cur.size = (off + cap) * size ∧ (cur.toList.drop (off * size)).take (n * size) = xs)
section
variable {w w1 : World} {base n size : Nat} {e : TypeId} {v : Value} {xs : List Value}
theorem cs2 (h : w.ownsRow base e size v n xs) : as9 w base e size v n xs := by
 obtain ⟨h1, h2⟩ := h
 refine ⟨h1, ?_⟩
 rcases h2 with ⟨rfl, h0⟩ | ⟨g, cap, cur, rfl, G, hh, rQ, hcm, SL, ht⟩
 ·exact .inl ⟨h0, none, rfl, fun a ha => by cases ha⟩
 ·exact .inr ⟨g, 0, cap, cur, by rw [Nat.zero_mul], G, hh, rQ, by rw [Nat.zero_add]; exact hcm, by rw [Nat.zero_add]; exact SL, by rw [Nat.zero_mul, List.drop_zero]; exact ht⟩
end
section
variable {P : Program}
end
namespace Kd
def Q {α : Type} (d : Kd α) (e : Nat) (w : World) (base : Nat) (ok : Nat → Prop) (v : Value) (xs : List α) : Prop :=
 (∀ k, v.ownBlock = some k → ok k) ∧ ∃ inner, as9 w base e d.sz v xs.length inner ∧ J2 (d.M w base (fun k => ok k ∧ some k ≠ v.ownBlock)) d.sz xs inner
section
variable {α : Type} {d : Kd α} {e : Nat} {w w1 W : World} {base : Nat} {ok ok' : Nat → Prop} {v : Value} {xs : List α}
theorem cp8 (h : d.R e w base ok v xs) : d.Q e w base ok v xs := by
 obtain ⟨h0, inner, ho, hr⟩ := h
 exact ⟨h0, inner, cs2 ho, hr⟩
theorem cm4 (d : Kd α) (e : Nat) (w : World) (base : Nat) (ok : Nat → Prop) : d.Q e w base ok (.slice none 0 0) [] := cp8 (fI d e w base ok)
end
section
variable {P : Program} {ops : Array Oper} {rest : List Oper} {o : Oper} {a : Act} {Q' : Exit → Act → World → Prop} {Kc : Act → World → Prop} {α : Type}
end
end Kd
namespace Kd
section
variable {α : Type} {d : Kd α} {e e' : Nat} {w w1 W : World} {base : Nat} {ok : Nat → Prop} {u v : Value} {xs : List α}
theorem Rm (h : d.R e w base ok v xs) : ∀ k, v.ownBlock = some k → ∃ cells, w.heap[k]? = some (.cells cells e (0, 0)) := by
 obtain ⟨inner, ho⟩ := Dl h
 exact fun k X => af7 ho k X
theorem cy5 (h : d.R e W base ok u xs) (MR : ∀ k, v.ownBlock = some k → ∃ cells, W.heap[k]? = some (.cells cells e' (0, 0))) (ht : ∀ q, q ∈ e :: d.E → q ≠ e') (hg : W.grownBy w1 v.ownBlock) : d.R e w1 base ok u xs := by
 refine Y5 (ZQ (aI h) (fun k X => hg.block k X.2.2.1 (fun he => ?_))) (fun _ X => X.1)
 obtain ⟨_, _, _, q, hq, cells, hc⟩ := X
 obtain ⟨Dp, GG⟩ := MR k he.symm
 rw [hc] at GG
 injection GG with GG
 injection GG with _ GG
 exact ht q hq GG
theorem RB (h : d.R e W base ok u xs) (MR : ∀ k, v.ownBlock = some k → ∃ cells, W.heap[k]? = some (.cells cells e' (0, 0))) (ht : ∀ q, q ∈ e :: d.E → q ≠ e') : d.R e W base (fun k => ok k ∧ some k ≠ v.ownBlock) u xs := by
 refine Y5 (aI h) (fun k X => ⟨X.1, fun he => ?_⟩)
 obtain ⟨_, _, _, q, hq, cells, hc⟩ := X
 obtain ⟨Dp, GG⟩ := MR k he.symm
 rw [hc] at GG
 injection GG with GG
 injection GG with _ GG
 exact ht q hq GG
theorem kF (hu : d.R e W base ok u xs) (G7 : ∀ k, v.ownBlock = some k → W.heap.size ≤ k) (G : Below W.heap.size W w1) : d.R e w1 base (fun k => ok k ∧ some k ≠ v.ownBlock) u xs :=
 Y5 (ZQ (aI hu) (fun k X => G.block k X.2.2.1)) (fun k X => ⟨X.1, fun he => by have := G7 k he.symm; have := X.2.2.1; omega⟩)
theorem iF (h : d.R e w1 W.heap.size ok v xs) (l4 : ∀ k, u.ownBlock = some k → k < W.heap.size) : d.R e w1 W.heap.size (fun k => ok k ∧ some k ≠ u.ownBlock) v xs :=
 Y5 (aI h) (fun k X => ⟨X.1, fun he => by have := l4 k he.symm; have := X.2.1; omega⟩)
theorem I7 (l4 : ∀ k, u.ownBlock = some k → k < W.heap.size) : ∀ k, W.heap.size ≤ k → some k ≠ u.ownBlock := fun k X he => by have := l4 k he.symm; omega
end
end Kd
namespace Kd
section
variable {α : Type} {d : Kd α} {e base g n cap : Nat} {ok okp : Nat → Prop} {W : World} {xs : List α}
end
end Kd
namespace Kd
section
variable {α : Type} {F : Kd α → Kd α} {sz : Nat} {E : List Nat} {hs : ∀ n, (upto F sz E n).sz = sz} {hE : ∀ n q, q ∈ (upto F sz E n).E → q ∈ E}
end
end Kd
namespace Kd
theorem cm3 {α : Type} {R : α → List Value → Prop} {size : Nat} {ps qs : List α} {cs ds : List Value} (h : J2 R size ps cs) (h' : J2 R size qs ds) : J2 R size (ps ++ qs) (cs ++ ds) := by
 refine ⟨by rw [List.length_append, List.length_append, h.1, h'.1, Nat.add_mul], fun j p hj => ?_⟩
 rcases Nat.lt_or_ge j ps.length with l4 | TO
 ·rw [List.getElem?_append_left l4] at hj
  have hle : j * size + size ≤ cs.length := by rw [h.1, ← Nat.succ_mul]; exact Nat.mul_le_mul_right _ l4
  rw [List.drop_append_of_le_length (by omega), List.take_append_of_le_length (by rw [List.length_drop]; omega)]
  exact h.2 j p hj
 ·rw [List.getElem?_append_right TO] at hj
  have h2 := h'.2 (j - ps.length) p hj
  have hle : ps.length * size ≤ j * size := Nat.mul_le_mul_right _ TO
  rw [List.drop_append, List.drop_eq_nil_of_le (by rw [h.1]; exact hle), List.nil_append, h.1, ← Nat.sub_mul]
  exact h2
section
variable {P : Program} {ops : Array Oper} {rest : List Oper} {o : Oper} {a : Act} {Q : Exit → Act → World → Prop} {α : Type}
theorem jJ (d : Kd α) {Rr : α → List Value → Prop} {w0 W : World} (base : Nat) (zC : o.guard = none) (s x : Operand) (t e : TypeId) (z : Value) (bytes : Nat)
 (ho : o.op = .call { callee := .builtin .append, args := #[s, x], argTypes := #[t, t] })
 (ht : P.underlying t = some (.slice e)) (LC : (P.info? e).map (fun i => (i.zero, i.size, i.bytes)) = some (some z, d.sz, bytes)) (hz : z.cells.size = d.sz) (pE : 0 < d.sz) (IA : 0 < bytes)
 (v : Value) (xs ys : List α) (A : Option Addr) (m c : Nat) (ok okp : Nat → Prop) (hs : a.eval s = v) (hx : a.eval x = .slice A m c)
 (HO : d.R e W base ok v xs) (HR : vG Rr d.sz W A m ys) (hKM : ∀ x cs, Rr x cs → d.M W base okp x cs) (YG : ∀ k, okp k → ok k ∧ some k ≠ v.ownBlock) (MC : ∀ k, W.heap.size ≤ k → ok k)
 (I : Below base w0 W) (G7 : base ≤ W.heap.size) (hl : (xs.length + m) * bytes ≤ 140737488355328)
 (h : ∀ v1 w1, d.R e w1 base ok v1 (xs ++ ys) → Below base w0 w1 → W.grownBy w1 v.ownBlock → (v1.ownBlock = v.ownBlock ∨ ∃ b, v1.ownBlock = some b ∧ W.heap.size ≤ b) → wpList P ops Q rest (a.put o.dst v1) w1) :
 wpList P ops Q (o :: rest) a W := by
 obtain ⟨i0, hi, nE⟩ := Option.map_eq_some_iff.1 LC
 simp only [Prod.mk.injEq] at nE
 obtain ⟨sF, eG, ND⟩ := nE
 have hm : ys.length = m := HR.1
 have hlen : xs.length + m ≤ 140737488355328 := Nat.le_trans (Nat.le_mul_of_pos_right _ IA) hl
 obtain ⟨b4, inner, G_, hr⟩ := HO
 have VA : ∃ v1 w1, (Builtin.append_ #[t, t] o.type #[v, .slice A m c]).run P W = .ok v1 w1 ∧ d.R e w1 base ok v1 (xs ++ ys) ∧ W.grownBy w1 v.ownBlock ∧ (v1.ownBlock = v.ownBlock ∨ ∃ b, v1.ownBlock = some b ∧ W.heap.size ≤ b) := by
  rcases A with _ | ad
  ·have h0 : m = 0 := by
    rcases Nat.eq_zero_or_pos m with h0 | h0
    ·exact h0
    ·obtain ⟨ad, h, _⟩ := HR.2.2 h0
     cases h
   subst h0
   obtain rfl : ys = [] := List.eq_nil_of_length_eq_zero hm
   refine ⟨v, W, ?_, by rw [List.append_nil]; exact ⟨b4, inner, G_, hr⟩, World.grownBy.refl W _, .inl rfl⟩
   rcases G_.2 with ⟨rfl, hn⟩ | ⟨g, cap, cur, rfl, _, _, rQ, _⟩
   ·simp [Builtin.append_, run_underlying ht, sizeOf, typeInfo, hi, Builtin.lenOf, Builtin.firstCells]
   ·simp [Builtin.append_, run_underlying ht, sizeOf, typeInfo, hi, Builtin.lenOf, Builtin.firstCells, rQ, storeCells]
  ·obtain ⟨news, Ad, rQ⟩ := vG.inner_ HR
   have bX : J2 (d.M W base okp) d.sz ys news := Ad.imp_ (fun p c hp => hKM p c hp)
   have AL : ∀ u ∈ news, u.oneCell' = true := by
    intro u hu
    obtain ⟨q, hq, rfl⟩ := List.mem_iff_getElem.1 hu
    have hql : q / d.sz < ys.length := by
     rw [Nat.div_lt_iff_lt_mul pE]
     rw [← bX.1]
     exact hq
    have hc := bX.2 (q / d.sz) _ (List.getElem?_eq_getElem hql)
    refine d.K_one (d.K_of_M hc) _ ?_
    rw [List.mem_iff_getElem?]
    refine ⟨q % d.sz, ?_⟩
    rw [List.getElem?_take, if_pos (Nat.mod_lt _ pE), List.getElem?_drop, Nat.mul_comm, Nat.div_add_mod, List.getElem?_eq_getElem hq]
   obtain ⟨v1, w1, VA, h2, hg, _, O1⟩ := run_append_own_at (P := P) W base t o.type e i0 z d.sz bytes ht hi sF eG ND hz pE v xs.length inner G_ ad m c news (by rw [bX.1, hm]) rQ AL (by simp only [maxLen]; omega) hl G7
   have Ac : v1.ownBlock = v.ownBlock ∨ ∃ b, v1.ownBlock = some b ∧ W.heap.size ≤ b := by
    rcases O1 with O1 | O1
    ·exact .inl O1
    ·exact .inr ⟨_, O1, Nat.le_refl _⟩
   have J8 : ∀ k, some k ≠ v.ownBlock → k < W.heap.size → some k ≠ v1.ownBlock := by
    intro k X l4
    rcases Ac with O1 | ⟨b, G, hle⟩
    ·rw [O1]; exact X
    ·rw [G]
     intro he
     injection he with he
     omega
   have step : ∀ {q : α} {c : List Value} {o : Nat → Prop}, d.M W base o q c → (∀ k, o k → ok k ∧ some k ≠ v.ownBlock) → d.M w1 base (fun k => ok k ∧ some k ≠ v1.ownBlock) q c := by
    intro q c o hq ho
    have h1 := d.M_move (w1 := w1) (fun k X => hg.block k X.2.2.1 (ho k X.1).2) (d.M_bound hq)
    exact d.M_mono (fun k X => ⟨(ho k X.1).1, J8 k (ho k X.1).2 X.2.2.1⟩) h1
   refine ⟨v1, w1, VA, ⟨fun k X => ?_, inner ++ news, by rw [List.length_append, hm]; exact h2, cm3 (hr.imp_ (fun _ _ hq => step hq (fun _ X => X))) (bX.imp_ (fun _ _ hq => step hq YG))⟩, hg, Ac⟩
   rcases Ac with O1 | ⟨b, G, hle⟩
   ·exact b4 k (O1 ▸ X)
   ·rw [G] at X
    injection X with X
    exact MC k (by omega)
 obtain ⟨v1, w1, HJ, h1, hg, O1⟩ := VA
 refine wpList_plain zC fun K hK => ?_
 unfold Oper.wp execOp
 simp only [ho, resolve, invoke, builtin, Sem.run_bind, Sem.run_pure, Result.andThen_ok, List.map_toArray, List.map_cons, List.map_nil, hs, hx, HJ]
 exact hK _ _ (h v1 w1 h1 (I.grown hg G7 (VM G_)) hg O1)
end
end Kd
namespace Kd
section
variable {P : Program} {ops : Array Oper} {rest : List Oper} {o : Oper} {a : Act} {Q : Exit → Act → World → Prop} {α : Type}
end
end Kd
theorem add_add (a : Addr) (i j : Nat) : (a.add i).add j = a.add (i + j) := by
 unfold Addr.add
 by_cases h1 : i = 0 <;> by_cases h2 : j = 0 <;> simp [h1, h2, Nat.add_assoc]
namespace Kd
section
variable {α : Type} {k : Kd α} {w : World} {A : Option Addr} {xs : List α} {m c : Nat}
end
end Kd
section
variable {P : Program}
end
theorem S3 {w W : World} (h : Below w.heap.size w W) : w.heap.size ≤ W.heap.size := h.size
theorem T0 {w W w2 : World} (h : Below w.heap.size w W) (k : Below W.heap.size W w2) : Below w.heap.size w w2 := cz2 h h.size k
theorem lF.nil (W : World) (k : IntKind) : lF W k none ([] : List Int).length [] := ⟨rfl, by simp, fun h => absurd h (Nat.lt_irrefl 0)⟩
theorem lF.drewN {W : World} {k : IntKind} {A : Option Addr} {n : Nat} {xs : List Int} (h : lF W k A n xs) (m : Nat) : lF (W.drewN m) k A n xs := h
theorem i4 {w W : World} {g j : Nat} {v : Value} (h : Below w.heap.size w W) (hg : w.heap.size ≤ g) : Below w.heap.size w (W.setCell ⟨g, j, none⟩ v) := h.setCell hg _
theorem dC {w W : World} {g : Nat} {row : Option Nat} (h : F1 w W g row) (m : Nat) : F1 w (W.drewN m) g row := h
theorem ct2 {w W : World} {g : Nat} (h : F1 w W g none) (o : Obj) : F1 w (W.alloc o) g none := h.trans (F1.of_grown (World.grownBy_alloc W o none) g) (.inl rfl)
theorem ak1 {w W : World} {g : Nat} (h : F1 w W g none) {a : Addr} {v : Value} (hc : w.cell? a = some v) (J8 : a.block ≠ g) : W.cell? a = some v := by
 have := h.2 a.block (World.block_lt_of_cell? w a hc) J8 (by simp)
 simpa [World.cell?, this] using hc
theorem aj1 (a : Addr) (i : Nat) : (a.add i).block = a.block := by unfold Addr.add; split <;> rfl
theorem cs8 {w W : World} {g : Nat} {row : Option Nat} (h : F1 w W g row) : w.heap.size ≤ W.heap.size := h.1
theorem eE.nil {α : Type} (enc : α → Value) (d : α) (W : World) : eE enc d W none ([] : List α).length [] := ⟨rfl, by simp, fun h => absurd h (Nat.lt_irrefl 0)⟩
theorem eE.drewN {α : Type} {enc : α → Value} {d : α} {W : World} {A : Option Addr} {n : Nat} {xs : List α} (h : eE enc d W A n xs) (m : Nat) : eE enc d (W.drewN m) A n xs := h
theorem lF.keep {w W : World} {k : IntKind} {A : Option Addr} {n g : Nat} {xs : List Int} (h : lF w k A n xs) (X : F1 w W g none) (hf : ∀ ad, A = some ad → 0 < n → ad.block ≠ g) : lF W k A n xs :=
 ⟨h.1, h.2.1, fun hn => by
  obtain ⟨ad, e, hc⟩ := h.2.2 hn
  exact ⟨ad, e, fun j hj => ak1 X (hc j hj) (by rw [aj1]; exact hf ad e hn)⟩⟩
theorem eE.keep {α : Type} {enc : α → Value} {d : α} {w W : World} {A : Option Addr} {n g : Nat} {xs : List α} (h : eE enc d w A n xs) (X : F1 w W g none) (hf : ∀ ad, A = some ad → 0 < n → ad.block ≠ g) : eE enc d W A n xs :=
 ⟨h.1, h.2.1, fun hn => by
  obtain ⟨ad, e, hc⟩ := h.2.2 hn
  exact ⟨ad, e, fun j hj => ak1 X (hc j hj) (by rw [aj1]; exact hf ad e hn)⟩⟩
theorem cell_far {W : World} {p a : Addr} (h : a.block ≠ p.block) (u : Value) : (W.setCell p u).cell? a = W.cell? a := by
 have := Below.heap_setCell W p u a.block h
 simp [World.cell?, this]
theorem J0 {w : World} {g : Nat} {t : TypeId} {cs sT : Array Value} (h : w.heap[g]? = some (.cells cs t (0, 0))) (i : Nat) (u : Value) (e : cs.setIfInBounds i u = sT) : (w.setCell ⟨g, i, none⟩ u).heap[g]? = some (.cells sT t (0, 0)) := e ▸ DB h i u
theorem MF {w W : World} {g : Nat} {row : Option Nat} (h : F1 w W g row) {p : Addr} (hp : w.heap.size ≤ p.block) (u : Value) : F1 w (W.setCell p u) g row :=
 ⟨by simpa [World.setCell] using h.1, fun i hi hg hr => (Below.heap_setCell W p u i (by omega)).trans (h.2 i hi hg hr)⟩
theorem G6 {base : Nat} {w W : World} (h : Below base w W) : Below base w W.drew := h.drew
theorem cx7 {w W : World} {g : Nat} {row : Option Nat} (h : F1 w W g row) : F1 w W.drew g row := h
namespace Kd
section
variable {α β : Type} {d : Kd α} {d' : Kd β} {e e' base SD n : Nat} {ok ok' : Nat → Prop} {w W w1 W1 : World} {v u : Value} {xs : List α} {ys : List β} {A : Option Addr} {c : Nat}
end
section
variable {α : Type} {enc : α → Value} {h1 : ∀ x, (enc x).oneCell' = true} {w W : World} {A : Option Addr} {n g : Nat} {xs : List α}
end
end Kd
namespace Kd
section
variable {α : Type} {d : Kd α} {e base g : Nat} {ok : Nat → Prop} {w w1 : World} {v : Value} {xs : List α} {o : Obj}
theorem Kl (h : d.R e w base ok v xs) (a : Nat) (ha : w.heap.size ≤ a) : d.R e w base (fun k => ok k ∧ k ≠ a) v xs := Y5 (aI h) (fun k X => ⟨X.1, by have := X.2.2.1; omega⟩)
theorem M8 (G : w.heap[g]? = some o) : ∀ k, w.heap.size ≤ k → k ≠ g := fun k X => by have := K8 G; omega
end
end Kd
section
variable {P : Program} {ops : Array Oper} {rest : List Oper} {o : Oper} {a : Act} {Q : Exit → Act → World → Prop}
theorem D3 {W : World} (zC : o.guard = none) {N : Tmp} (bU : o.dst = some N) {cs : Array Value} {t : TypeId}
 (VA : (execOp a.eval o).run P W = .ok (.value (.pointer (some ⟨W.heap.size, 0, none⟩))) (W.alloc (.cells cs t (0, 0))))
 (h : ∀ g, g = W.heap.size → ∀ w1, w1.heap[g]? = some (.cells cs t (0, 0)) → Below W.heap.size W w1 → wpList P ops Q rest (a.put o.dst (.pointer (some ⟨g, 0, none⟩))) w1) : wpList P ops Q (o :: rest) a W :=
 Kd.ak6 zC VA (h _ rfl _ (al8 W _) (I6 (Below.refl _ _) _))
end
namespace Kd
section
variable {α : Type} {enc : α → Value} {h1 : ∀ x, (enc x).oneCell' = true} {e base g n cap : Nat} {ok : Nat → Prop} {W : World} {xs : List α}
end
end Kd
section
variable {P : Program} {ops : Array Oper} {rest : List Oper} {o : Oper} {a : Act} {Q : Exit → Act → World → Prop}
end
namespace Kd
section
variable {α : Type} {enc : α → Value} {h1 : ∀ x, (enc x).oneCell' = true} {e base g n cap : Nat} {ok : Nat → Prop} {W : World} {xs : List α}
end
end Kd
section
variable {P : Program} {ops : Array Oper} {rest : List Oper} {o : Oper} {a : Act} {Q : Exit → Act → World → Prop} {W : World}
theorem P2 {N : Tmp} (_hN : o.dst = some N) (h : wpList P ops Q (o :: rest) a W) : wpList P ops Q (o :: rest) a W := h
end
section
variable {P : Program} {ops : Array Oper} {o : Oper} {a : Act} {Q : Exit → Act → World → Prop} {Kc : Act → World → Prop}
theorem ai0 {W w1 : World} {v : Value} (hw : Region.wanted o (yielded ops a.tmps) = true) (VA : (execOp a.eval o).run P W = .ok (.value v) w1) (h : Kc (a.put o.dst v) w1) : if Region.wanted o (yielded ops a.tmps) = true then Oper.wp P o a W Kc Q else Kc (a.put o.dst undef) W := by
 rw [if_pos hw]
 unfold Oper.wp
 rw [VA]
 exact h
theorem kH {W : World} (hw : Region.wanted o (yielded ops a.tmps) = true) {N : Tmp} (bU : o.dst = some N) {cs : Array Value} {t : TypeId}
 (VA : (execOp a.eval o).run P W = .ok (.value (.pointer (some ⟨W.heap.size, 0, none⟩))) (W.alloc (.cells cs t (0, 0))))
 (h : ∀ g, g = W.heap.size → ∀ w1, w1.heap[g]? = some (.cells cs t (0, 0)) → Below W.heap.size W w1 → Kc (a.put o.dst (.pointer (some ⟨g, 0, none⟩))) w1) : if Region.wanted o (yielded ops a.tmps) = true then Oper.wp P o a W Kc Q else Kc (a.put o.dst undef) W :=
 ai0 hw VA (h _ rfl _ (al8 W _) (I6 (Below.refl _ _) _))
namespace Kd
variable {α : Type}
theorem TM (d : Kd α) {w0 W : World} (base e : Nat) (hw : Region.wanted o (yielded ops a.tmps) = true) {N : Tmp} (bU : o.dst = some N) {xs : List α} {inner : List Value} {ok okp : Nat → Prop}
 (VA : (execOp a.eval o).run P W = .ok (.value (.slice (some ⟨W.heap.size, 0, none⟩) xs.length xs.length)) (W.alloc (.cells inner.toArray e)))
 (XL : J2 (d.M W base okp) d.sz xs inner) (b4 : ∀ k, okp k → ok k) (MC : ok W.heap.size) (I : Below base w0 W) (G7 : base ≤ W.heap.size) (hm : xs.length ≤ 9223372036854775807)
 (h : ∀ v1 w1, d.R e w1 base ok v1 xs → Below base w0 w1 → W.grownBy w1 none → (∃ b, v1.ownBlock = some b ∧ W.heap.size ≤ b) → Kc (a.put o.dst v1) w1) : if Region.wanted o (yielded ops a.tmps) = true then Oper.wp P o a W Kc Q else Kc (a.put o.dst undef) W := by
 refine ai0 hw VA (h _ _ ⟨fun k X => ?_, inner, ?_, ?_⟩ (I.alloc G7 _) (World.grownBy_alloc W _ none) ⟨W.heap.size, by simp [Value.ownBlock], Nat.le_refl _⟩)
 ·have : W.heap.size = k := by simpa [Value.ownBlock] using X
  subst this
  exact MC
 ·have h2 := World.ownsRow_lit (base := base) (e := e) (size := d.sz) W inner.toArray xs.length G7 (by simpa [maxLen] using hm) (by simpa using XL.1)
  simpa using h2
 ·refine XL.imp_ (fun p c hp => d.M_mono (fun k X => ⟨b4 k X.1, fun he => ?_⟩) (aj5 (d.M_bound hp) (I6 (Below.refl _ _) _)))
  have h3 : k = W.heap.size := by simpa [Value.ownBlock] using he
  have := X.2.2.1
  omega
end Kd
end
inductive mP (P : Program) (tmps : Array Value) (w : World) : List ResultVar → List Value → Prop where
 | nil : mP P tmps w [] []
 | tmp {u : Tmp} {rs : List ResultVar} {vs : List Value} (h : mP P tmps w rs vs) : mP P tmps w (.tmp u :: rs) (tmps.getD u undef :: vs)
 | cell {p : Tmp} {ty : TypeId} {rs : List ResultVar} {vs : List Value} (g : Nat) (t : TypeId) (cs : Array Value) (fr : Nat × Nat) (d : TypeDesc)
  (hp : tmps.getD p undef = .pointer (some ⟨g, 0, none⟩)) (hg : w.heap[g]? = some (.cells cs t fr))
  (hu : P.underlying ty = some d) (hd : (match d with | .struct _ | .array _ _ => true | _ => false) = true) (hi : (P.info? ty).map (·.size) = some cs.size)
  (h : mP P tmps w rs vs) : mP P tmps w (.cell p ty :: rs) (.agg cs :: vs)
section
variable {P : Program} {tmps : Array Value} {w : World}
theorem co0 {rs : List ResultVar} {vs : List Value} (hv : mP P tmps w rs vs) (f : ResultVar → Sem Value) (hf : ∀ u, f (.tmp u) = pure (tmps.getD u undef)) (hc : ∀ a t, f (.cell a t) = (do loadVar t (← asAddr (tmps.getD a undef)))) :
 (rs.mapM f).run P w = .ok vs w := by
 induction hv with
 | nil => simp
 | tmp h ih => simp [List.mapM_cons, hf, ih]
 | cell g t cs fr d hp hg hu hd hi h ih =>
  rw [List.mapM_cons, hc, hp]
  simp [asAddr, run_loadVar_row w g t _ cs fr d hg hu hd hi, ih]
theorem vR {fn : Func} {rs : List ResultVar} {vs : List Value} (h : fn.results = rs.toArray) (hl : vs.length ≠ 1) (hv : mP P tmps w rs vs) : (results fn tmps).run P w = .ok (.tuple vs.toArray) w := by
 unfold results
 rw [h, List.mapM_toArray]
 simp only [Sem.run_bind, Sem.run_map]
 rw [co0 hv]
 ·simp [hl]
 ·intro u
  rfl
 ·intro a t
  rfl
end
namespace Kd
section
variable {P : Program} {α : Type}
end
section
variable {P : Program} {ops : Array Oper} {rest : List Oper} {o : Oper} {a : Act} {Q : Exit → Act → World → Prop} {Kc : Act → World → Prop} {α : Type}
end
end Kd
end Go.Proofs.YtdmnknhlibaaoaaW.PrintWords
namespace Go.Proofs.YtdmnknhlibaaoaaW.PrintLast
section
variable {P : Program} {ops : Array Oper} {Q : Exit → Act → World → Prop} {md : Region.Mode} {S : World → Prop} {ds : List Nat}
def Region.reachB (md : Region.Mode) (ops : Array Oper) (i : Nat) : Nat → Nat → Bool
 | 0, _ => false
 | fuel + 1, d => match ops[d]? with
  | some o => o.after.any fun e => Region.binds md e && (e.on == i || Region.reachB md ops i fuel e.on)
  | none => false
def Region.closedB (md : Region.Mode) (ops : Array Oper) (listed : Array Bool) : Bool :=
 (List.range ops.size).all fun j => !listed.getD j false || match ops[j]? with
  | some o => o.after.all fun e => !Region.binds md e || listed.getD e.on false
  | none => true
def Region.lastB (md : Region.Mode) (ops : Array Oper) (listed : Array Bool) (ds : List Nat) (i : Nat) : Bool :=
 ds.all fun d => listed.getD d true || Region.reachB md ops i ops.size d
def tP (md : Region.Mode) (ops : Array Oper) (listed : Array Bool) : Prop :=
 ∀ j oj, ops[j]? = some oj → listed.getD j false = true → ∀ e ∈ oj.after, Region.binds md e = true → listed.getD e.on false = true
theorem Region.closedB_spec {listed : Array Bool} (h : Region.closedB md ops listed = true) : tP md ops listed := by
 intro j oj hj hl e he G
 have l4 : j < ops.size := (Array.getElem?_eq_some_iff.1 hj).1
 have h1 := List.all_eq_true.1 h j (List.mem_range.2 l4)
 simp only [hl, hj, Bool.not_true, Bool.false_or] at h1
 have h2 := Array.all_eq_true_iff_forall_mem.1 h1 e he
 simpa [G] using h2
theorem tP.set {listed : Array Bool} {i : Nat} (h : tP md ops listed) (hi : i ∈ Region.ready md ops listed) : tP md ops (listed.setIfInBounds i true) := by
 obtain ⟨_, oi, hoi, CO⟩ := mem_ready.1 hi
 intro j oj hj hl e he G
 by_cases hij : i = j
 ·subst hij
  have : oj = oi := Option.some.inj (hj.symm.trans hoi)
  subst this
  exact getD_set_true (CO e he G)
 ·rw [getD_set_ne false hij] at hl
  exact getD_set_true (h j oj hj hl e he G)
theorem Region.reach_listed {listed : Array Bool} {i : Nat} (hc : tP md ops listed) : ∀ (fuel d : Nat), Region.reachB md ops i fuel d = true → listed.getD d false = true → listed.getD i false = true
 | 0, _, h, _ => by simp [Region.reachB] at h
 | fuel + 1, d, h, hl => by
  unfold Region.reachB at h
  cases ho : ops[d]? with
  | none => rw [ho] at h; simp at h
  | some o =>
   rw [ho] at h
   obtain ⟨e, he, h1⟩ := Array.any_eq_true'.1 h
   simp only [Bool.and_eq_true, Bool.or_eq_true, beq_iff_eq] at h1
   have hle := hc d o ho hl e he h1.1
   rcases h1.2 with h2 | h2
   ·rw [← h2]; exact hle
   ·exact Region.reach_listed hc fuel e.on h2 hle
theorem Region.reach_not_ready {listed : Array Bool} {i d fuel : Nat} (hc : tP md ops listed) (hr : Region.reachB md ops i fuel d = true) (sG : listed.getD i true = false) : d ∉ Region.ready md ops listed := by
 intro hd
 obtain ⟨_, o, ho, CO⟩ := mem_ready.1 hd
 have hi : listed.getD i false = true := by
  cases fuel with
  | zero => simp [Region.reachB] at hr
  | succ n =>
   unfold Region.reachB at hr
   rw [ho] at hr
   obtain ⟨e, he, h1⟩ := Array.any_eq_true'.1 hr
   simp only [Bool.and_eq_true, Bool.or_eq_true, beq_iff_eq] at h1
   have hle := CO e he h1.1
   rcases h1.2 with h2 | h2
   ·rw [← h2]; exact hle
   ·exact Region.reach_listed hc n e.on h2 hle
 rcases Nat.lt_or_ge i listed.size with h' | h'
 ·simp [h'] at sG hi
  rw [sG] at hi
  cases hi
 ·simp [Array.getElem?_eq_none h'] at sG
def g8 (P : Program) (md : Region.Mode) (ops : Array Oper) (Q : Exit → Act → World → Prop) (S : World → Prop) (ds : List Nat) : Nat → Array Bool → Act → World → Prop
 | 0, listed, a, w => Region.ready md ops listed = [] ∧ Q .normal a w
 | fuel + 1, listed, a, w =>
  (Region.ready md ops listed = [] → Q .normal a w) ∧
  ∀ i ∈ Region.ready md ops listed, wpOp P ops Q i (fun a' w' => (i ∉ ds → S w → S w') ∧ g8 P md ops Q S ds fuel (listed.setIfInBounds i true) a' w') a w
theorem am9 : ∀ (fuel : Nat) (listed : Array Bool) (a : Act) (w : World), g8 P md ops Q S ds fuel listed a w → wpAny P md ops Q fuel listed a w
 | 0, _, _, _, h => h
 | fuel + 1, _, _, _, h => ⟨h.1, fun i hi => wpOp_mono (fun a' w' h' => am9 fuel _ a' w' h'.2) (h.2 i hi)⟩
theorem ct8 {i : Nat} {oi : Oper} {v : Value} (hi : ops[i]? = some oi) (rU : ∀ (j : Nat) (o : Oper) cs b, ops[j]? = some o → o.op ≠ .select cs b)
 (hQ : ∀ c a w, Q (.panic c) (a.put oi.dst v) w → Q (.panic c) a w) (n : Nat) :
 ∀ (fuel : Nat) (listed : Array Bool) (a : Act) (w : World),
  (∀ j oj, ops[j]? = some oj → j ≠ i → listed.getD j true = false → (∀ e ∈ oj.after, Region.binds md e = true → e.on ≠ i) → oi.apart ops oj = true) →
  tP md ops listed → (∀ d ∈ ds, listed.getD d true = false → Region.reachB md ops i n d = true) →
  i ∈ Region.ready md ops listed → YieldsIf P ops S oi v a → S w →
  g8 P md ops Q S ds fuel (listed.setIfInBounds i true) (a.put oi.dst v) w → g8 P md ops Q S ds (fuel + 1) listed a w := by
 intro fuel
 induction fuel with
 | zero =>
  intro listed a w _ _ _ hr hy hS H
  refine ⟨fun h => (by rw [h] at hr; cases hr), fun j hj => ?_⟩
  by_cases BE : j = i
  ·subst BE; exact hy.wpOp hi hS ⟨fun _ h => h, H⟩
  ·have := ready_mono hj BE
   rw [H.1] at this
   cases this
 | succ fuel ih =>
  intro listed a w UU hc hd hr hy hS H
  refine ⟨fun h => (by rw [h] at hr; cases hr), fun j hj => ?_⟩
  by_cases BE : j = i
  ·subst BE; exact hy.wpOp hi hS ⟨fun _ h => h, H⟩
  ·have h1 := H.2 j (ready_mono hj BE)
   obtain ⟨uN, oj, SO, CO⟩ := mem_ready.1 hj
   have NP := (mem_ready.1 hr).1
   have Dk : ∀ e ∈ oj.after, Region.binds md e = true → e.on ≠ i := fun e he G heq => by
    have h1 := CO e he G
    rw [heq] at h1
    rcases Nat.lt_or_ge i listed.size with h' | h'
    ·simp [h'] at NP h1; rw [NP] at h1; cases h1
    ·simp [Array.getElem?_eq_none h'] at h1
   have hjd : j ∉ ds := fun hm => Region.reach_not_ready hc (hd j hm uN) NP hj
   have h2 := wpOp_putIf SO (UU j oj SO BE uN Dk) (fun cs b => rU i oi cs b hi) (fun cs b => rU j oj cs b SO) hQ hy h1
   have Kk : ∀ k ok, ops[k]? = some ok → k ≠ i → (listed.setIfInBounds j true).getD k true = false →
    (∀ e ∈ ok.after, Region.binds md e = true → e.on ≠ i) → oi.apart ops ok = true := fun k ok X QZ sG AH => by
    refine UU k ok X QZ ?_ AH
    by_cases mM : j = k
    ·subst mM; exact uN
    ·rw [getD_set_ne true mM] at sG; exact sG
   have Fw : ∀ d ∈ ds, (listed.setIfInBounds j true).getD d true = false → Region.reachB md ops i n d = true := fun d hm sG => by
    refine hd d hm ?_
    by_cases mM : j = d
    ·subst mM; exact uN
    ·rw [getD_set_ne true mM] at sG; exact sG
   refine wpOp_mono (fun a' w' h3 => ⟨h3.2.1, ih (listed.setIfInBounds j true) a' w' Kk (hc.set hj) Fw (ready_mono hr (Ne.symm BE)) h3.1 (h3.2.1 hjd hS) ?_⟩) h2
   rw [Array.setIfInBounds_comm _ _ BE]
   exact h3.2.2
theorem cl8 {i : Nat} {oi : Oper} {v : Value} (hi : ops[i]? = some oi) (rU : ∀ (j : Nat) (o : Oper) cs b, ops[j]? = some o → o.op ≠ .select cs b)
 (hQ : ∀ c a w, Q (.panic c) (a.put oi.dst v) w → Q (.panic c) a w) :
 ∀ (fuel : Nat) (listed : Array Bool) (a : Act) (w : World),
  (∀ j oj, ops[j]? = some oj → j ≠ i → listed.getD j true = false → (∀ e ∈ oj.after, Region.binds md e = true → e.on ≠ i) → oi.apart ops oj = true) →
  i ∈ Region.ready md ops listed → Yields P ops oi v a →
  g8 P md ops Q S ds fuel (listed.setIfInBounds i true) (a.put oi.dst v) w → g8 P md ops Q S ds (fuel + 1) listed a w := by
 intro fuel
 induction fuel with
 | zero =>
  intro listed a w _ hr hy H
  refine ⟨fun h => (by rw [h] at hr; cases hr), fun j hj => ?_⟩
  by_cases BE : j = i
  ·subst BE; exact (hy.yieldsIf (S := fun _ => True)).wpOp hi trivial ⟨fun _ h => h, H⟩
  ·have := ready_mono hj BE
   rw [H.1] at this
   cases this
 | succ fuel ih =>
  intro listed a w UU hr hy H
  refine ⟨fun h => (by rw [h] at hr; cases hr), fun j hj => ?_⟩
  by_cases BE : j = i
  ·subst BE; exact (hy.yieldsIf (S := fun _ => True)).wpOp hi trivial ⟨fun _ h => h, H⟩
  ·have h1 := H.2 j (ready_mono hj BE)
   obtain ⟨uN, oj, SO, CO⟩ := mem_ready.1 hj
   have NP := (mem_ready.1 hr).1
   have Dk : ∀ e ∈ oj.after, Region.binds md e = true → e.on ≠ i := fun e he G heq => by
    have h1 := CO e he G
    rw [heq] at h1
    rcases Nat.lt_or_ge i listed.size with h' | h'
    ·simp [h'] at NP h1; rw [NP] at h1; cases h1
    ·simp [Array.getElem?_eq_none h'] at h1
   have h2 := wpOp_put SO (UU j oj SO BE uN Dk) (fun cs b => rU i oi cs b hi) (fun cs b => rU j oj cs b SO) hQ hy h1
   have Kk : ∀ k ok, ops[k]? = some ok → k ≠ i → (listed.setIfInBounds j true).getD k true = false →
    (∀ e ∈ ok.after, Region.binds md e = true → e.on ≠ i) → oi.apart ops ok = true := fun k ok X QZ sG AH => by
    refine UU k ok X QZ ?_ AH
    by_cases mM : j = k
    ·subst mM; exact uN
    ·rw [getD_set_ne true mM] at sG; exact sG
   refine wpOp_mono (fun a' w' h3 => ⟨h3.2.1, ih (listed.setIfInBounds j true) a' w' Kk (ready_mono hr (Ne.symm BE)) h3.1 ?_⟩) h2
   rw [Array.setIfInBounds_comm _ _ BE]
   exact h3.2.2
theorem da6 {i : Nat} {oi : Oper} {v : Value} {fuel : Nat} {listed : Array Bool} {a : Act} {w : World} (hi : ops[i]? = some oi)
 (hs : Region.noSelect ops = true) (hf : Region.free md ops listed i = true) (hr : (Region.ready md ops listed).contains i = true)
 (hc : Region.closedB md ops listed = true) (hl : Region.lastB md ops listed ds i = true)
 (hQ : ∀ c a w, Q (.panic c) (a.put oi.dst v) w → Q (.panic c) a w) (hy : YieldsIf P ops S oi v a) (hS : S w)
 (h : g8 P md ops Q S ds fuel (listed.setIfInBounds i true) (a.put oi.dst v) w) : g8 P md ops Q S ds (fuel + 1) listed a w :=
 ct8 hi (Region.noSelect_spec hs) hQ ops.size fuel listed a w (Region.free_spec hi hf) (Region.closedB_spec hc)
  (fun d hm sG => by have := List.all_eq_true.1 hl d hm; rw [sG] at this; simpa using this) (by simpa using hr) hy hS h
theorem ct6 {rs : List Nat} {fuel : Nat} {listed : Array Bool} {a : Act} {w : World} (hr : Region.ready md ops listed = rs) (J8 : rs ≠ [])
 (h : ∀ i ∈ rs, wpOp P ops Q i (fun a' w' => (i ∉ ds → S w → S w') ∧ g8 P md ops Q S ds fuel (listed.setIfInBounds i true) a' w') a w) : g8 P md ops Q S ds (fuel + 1) listed a w :=
 ⟨fun h0 => absurd (hr ▸ h0) J8, hr ▸ h⟩
theorem cq8 {listed : Array Bool} {a : Act} {w : World} (hr : Region.ready md ops listed = []) (h : Q .normal a w) :
 ∀ fuel, g8 P md ops Q S ds fuel listed a w
 | 0 => ⟨hr, h⟩
 | _ + 1 => ⟨fun _ => h, by rw [hr]; simp⟩
theorem cp1 {id : Nat} {a : Act} {w : World} (hm : P.follows .mixedOrders = true)
 (h : g8 P .any ops Q S ds ops.size (Array.replicate ops.size false) a { w with drawn := w.drawn + 1 }) : (Code.region id ops true).wp P Q a w :=
 wp_region_any hm (am9 _ _ _ _ h)
end
section
variable {P : Program} {ops : Array Oper} {Q : Exit → Act → World → Prop} {md : Region.Mode} {S : World → Prop} {ds : List Nat}
def jD (P : Program) (md : Region.Mode) (ops : Array Oper) (Q : Exit → Act → World → Prop) (S : World → Prop) (ds : List Nat) (fuel : Nat) (listed : Array Bool) (a : Act) (w : World) (rs : List Nat) : Prop :=
 ∀ i ∈ rs, wpOp P ops Q i (fun a' w' => (i ∉ ds → S w → S w') ∧ g8 P md ops Q S ds fuel (listed.setIfInBounds i true) a' w') a w
theorem jD.nil {fuel : Nat} {listed : Array Bool} {a : Act} {w : World} : jD P md ops Q S ds fuel listed a w [] := fun _ h => by cases h
theorem jD.cons {fuel : Nat} {listed : Array Bool} {a : Act} {w : World} {i : Nat} {o : Oper} {rs : List Nat} (ho : ops[i]? = some o) (hd : i ∉ ds)
 (h : ∀ K' : Act → World → Prop, Shut (∀ a w, S w → (S w → g8 P md ops Q S ds fuel (listed.setIfInBounds i true) a w) → K' a w) → if Region.wanted o (yielded ops a.tmps) = true then Oper.wp P o a w K' Q else K' (a.put o.dst undef) w)
 (hs : jD P md ops Q S ds fuel listed a w rs) : jD P md ops Q S ds fuel listed a w (i :: rs) := fun j hj => by
 rcases List.mem_cons.1 hj with rfl | hj
 ·exact wpOp_step ho (fun K' hK => h K' (fun a w hS hW => hK a w ⟨fun _ _ => hS, hW hS⟩))
 ·exact hs j hj
theorem jD.cons_last {fuel : Nat} {listed : Array Bool} {a : Act} {w : World} {i : Nat} {o : Oper} {rs : List Nat} (ho : ops[i]? = some o) (hd : i ∈ ds)
 (h : ∀ K' : Act → World → Prop, Shut (∀ a w, g8 P md ops Q S ds fuel (listed.setIfInBounds i true) a w → K' a w) → if Region.wanted o (yielded ops a.tmps) = true then Oper.wp P o a w K' Q else K' (a.put o.dst undef) w)
 (hs : jD P md ops Q S ds fuel listed a w rs) : jD P md ops Q S ds fuel listed a w (i :: rs) := fun j hj => by
 rcases List.mem_cons.1 hj with rfl | hj
 ·exact wpOp_step ho (fun K' hK => h K' (fun a w hW => hK a w ⟨fun hn => absurd hd hn, hW⟩))
 ·exact hs j hj
theorem cZ {rs : List Nat} {fuel : Nat} {listed : Array Bool} {a : Act} {w : World} (hr : Region.ready md ops listed = rs) (J8 : rs ≠ [])
 (h : jD P md ops Q S ds fuel listed a w rs) : g8 P md ops Q S ds (fuel + 1) listed a w := ct6 hr J8 h
theorem hH {id n : Nat} {a : Act} {w : World} (l : Array Bool) (hm : P.follows .mixedOrders = true) (hn : ops.size = n) (hl : Array.replicate n false = l) (hS : S w.drew)
 (h : S w.drew → g8 P .any ops Q S ds n l a w.drew) : (Code.region id ops true).wp P Q a w := by
 subst hn
 subst hl
 exact cp1 hm (h hS)
def qV (md : Region.Mode) (ops : Array Oper) (ds : List Nat) (l l' : Array Bool) (i : Nat) : Bool :=
 Region.noSelect ops && Region.free md ops l i && (Region.ready md ops l).contains i && Region.closedB md ops l && Region.lastB md ops l ds i && (l.setIfInBounds i true == l')
theorem take_ {i : Nat} {N : Option Tmp} {oi : Oper} {v : Value} {fuel : Nat} {l : Array Bool} {a : Act} {w : World} (l' : Array Bool) (hi : ops[i]? = some oi) (hN : oi.dst = N) (hc : qV md ops ds l l' i = true)
 (hQ : ∀ c a w, Q (.panic c) (a.put oi.dst v) w → Q (.panic c) a w) (hy : YieldsIf P ops S oi v a) (hS : S w) {a' : Act} (ha : a.put N v = a')
 (h : g8 P md ops Q S ds fuel l' a' w) : g8 P md ops Q S ds (fuel + 1) l a w := by
 subst ha
 subst hN
 simp only [qV, Bool.and_eq_true, beq_iff_eq] at hc
 obtain ⟨⟨⟨⟨⟨h1, h2⟩, h3⟩, h4⟩, h5⟩, h6⟩ := hc
 subst h6
 exact da6 hi h1 h2 h3 h4 h5 hQ hy hS h
def AV (md : Region.Mode) (ops : Array Oper) (l l' : Array Bool) (i : Nat) : Bool :=
 Region.noSelect ops && Region.free md ops l i && (Region.ready md ops l).contains i && (l.setIfInBounds i true == l')
theorem j6 {i : Nat} {N : Option Tmp} {oi : Oper} {v : Value} {fuel : Nat} {l : Array Bool} {a : Act} {w : World} (l' : Array Bool) (hi : ops[i]? = some oi) (hN : oi.dst = N) (hc : AV md ops l l' i = true)
 (hQ : ∀ c a w, Q (.panic c) (a.put oi.dst v) w → Q (.panic c) a w) (hy : Yields P ops oi v a) {a' : Act} (ha : a.put N v = a')
 (h : g8 P md ops Q S ds fuel l' a' w) : g8 P md ops Q S ds (fuel + 1) l a w := by
 subst ha
 subst hN
 simp only [AV, Bool.and_eq_true, beq_iff_eq] at hc
 obtain ⟨⟨⟨h1, h2⟩, h3⟩, h6⟩ := hc
 subst h6
 exact cl8 hi (Region.noSelect_spec h1) hQ fuel l a w (Region.free_spec hi h2) (by simpa using h3) hy h
def AR (md : Region.Mode) (ops : Array Oper) (l l' : Array Bool) (i : Nat) : Bool := (Region.ready md ops l == [i]) && (l.setIfInBounds i true == l')
theorem l9 {i : Nat} {N : Option Tmp} {oi : Oper} {fuel : Nat} {l : Array Bool} {a : Act} {w : World} (l' : Array Bool) (hi : ops[i]? = some oi) (hN : oi.dst = N) (hc : AR md ops l l' i = true) (hd : i ∉ ds)
 (h : ∀ K : Act → World → Prop, Shut (∀ a' w', S w' → (S w' → g8 P md ops Q S ds fuel l' a' w') → K a' w') → if Region.wanted oi (yielded ops a.tmps) = true then Oper.wp P oi a w K Q else K (a.put N undef) w) :
 g8 P md ops Q S ds (fuel + 1) l a w := by
 subst hN
 simp only [AR, Bool.and_eq_true, beq_iff_eq] at hc
 obtain ⟨h1, h2⟩ := hc
 subst h2
 exact cZ h1 (by simp) (jD.cons hi hd (fun K hK => h K hK) jD.nil)
theorem cz7 {i : Nat} {N : Option Tmp} {oi : Oper} {fuel : Nat} {l : Array Bool} {a : Act} {w : World} (l' : Array Bool) (hi : ops[i]? = some oi) (hN : oi.dst = N) (hc : AR md ops l l' i = true) (hd : i ∈ ds)
 (h : ∀ K : Act → World → Prop, Shut (∀ a' w', g8 P md ops Q S ds fuel l' a' w' → K a' w') → if Region.wanted oi (yielded ops a.tmps) = true then Oper.wp P oi a w K Q else K (a.put N undef) w) :
 g8 P md ops Q S ds (fuel + 1) l a w := by
 subst hN
 simp only [AR, Bool.and_eq_true, beq_iff_eq] at hc
 obtain ⟨h1, h2⟩ := hc
 subst h2
 exact cZ h1 (by simp) (jD.cons_last hi hd (fun K hK => h K hK) jD.nil)
theorem gH {l : Array Bool} {a : Act} {w : World} {n : Nat} (hr : (Region.ready md ops l == []) = true) (h : Q .normal a w) : g8 P md ops Q S ds n l a w := cq8 (by simpa using hr) h n
theorem TJ {i j : Nat} {Ni Nj : Option Tmp} {oi oj : Oper} {fuel : Nat} {l : Array Bool} {a : Act} {w : World} (li lj : Array Bool) (hi : ops[i]? = some oi) (hj : ops[j]? = some oj) (Ld : oi.dst = Ni) (Zi : oj.dst = Nj)
 (hc : (Region.ready md ops l == [i, j] && l.setIfInBounds i true == li && l.setIfInBounds j true == lj) = true) (Ma : i ∉ ds) (Ta : j ∉ ds)
 (h1 : ∀ K : Act → World → Prop, Shut (∀ a' w', S w' → (S w' → g8 P md ops Q S ds fuel li a' w') → K a' w') → if Region.wanted oi (yielded ops a.tmps) = true then Oper.wp P oi a w K Q else K (a.put Ni undef) w)
 (h2 : ∀ K : Act → World → Prop, Shut (∀ a' w', S w' → (S w' → g8 P md ops Q S ds fuel lj a' w') → K a' w') → if Region.wanted oj (yielded ops a.tmps) = true then Oper.wp P oj a w K Q else K (a.put Nj undef) w) :
 g8 P md ops Q S ds (fuel + 1) l a w := by
 subst Ld
 subst Zi
 simp only [Bool.and_eq_true, beq_iff_eq] at hc
 obtain ⟨⟨h3, h4⟩, h5⟩ := hc
 subst h4
 subst h5
 exact cZ h3 (by simp) (jD.cons hi Ma (fun K hK => h1 K hK) (jD.cons hj Ta (fun K hK => h2 K hK) jD.nil))
theorem Tm {i j k : Nat} {Ni Nj Nk : Option Tmp} {oi oj ok : Oper} {fuel : Nat} {l : Array Bool} {a : Act} {w : World} (li lj lk : Array Bool) (hi : ops[i]? = some oi) (hj : ops[j]? = some oj) (X : ops[k]? = some ok) (Ld : oi.dst = Ni) (Zi : oj.dst = Nj) (hNk : ok.dst = Nk)
 (hc : (Region.ready md ops l == [i, j, k] && l.setIfInBounds i true == li && l.setIfInBounds j true == lj && l.setIfInBounds k true == lk) = true) (Ma : i ∉ ds) (Ta : j ∉ ds) (hdk : k ∉ ds)
 (h1 : ∀ K : Act → World → Prop, Shut (∀ a' w', S w' → (S w' → g8 P md ops Q S ds fuel li a' w') → K a' w') → if Region.wanted oi (yielded ops a.tmps) = true then Oper.wp P oi a w K Q else K (a.put Ni undef) w)
 (h2 : ∀ K : Act → World → Prop, Shut (∀ a' w', S w' → (S w' → g8 P md ops Q S ds fuel lj a' w') → K a' w') → if Region.wanted oj (yielded ops a.tmps) = true then Oper.wp P oj a w K Q else K (a.put Nj undef) w)
 (h3 : ∀ K : Act → World → Prop, Shut (∀ a' w', S w' → (S w' → g8 P md ops Q S ds fuel lk a' w') → K a' w') → if Region.wanted ok (yielded ops a.tmps) = true then Oper.wp P ok a w K Q else K (a.put Nk undef) w) :
 g8 P md ops Q S ds (fuel + 1) l a w := by
 subst Ld
 subst Zi
 subst hNk
 simp only [Bool.and_eq_true, beq_iff_eq] at hc
 obtain ⟨⟨⟨h4, h5⟩, h6⟩, h7⟩ := hc
 subst h5
 subst h6
 subst h7
 exact cZ h4 (by simp) (jD.cons hi Ma (fun K hK => h1 K hK) (jD.cons hj Ta (fun K hK => h2 K hK) (jD.cons X hdk (fun K hK => h3 K hK) jD.nil)))
def bD : Act → List (Tmp × Value) → Act
 | a, [] => a
 | a, (n, v) :: r => bD (a.put (some n) v) r
theorem ME {σ : Type} {fuel : Nat} {l : Array Bool} {a : Act} {w : World} (Yp : Nat) (l' : Array Bool) (ns : σ → List (Tmp × Value)) (F : σ → World → Prop)
 (bb7 : ∀ s w', F s w' → g8 P md ops Q S ds Yp l' (bD a (ns s)) w')
 (h : (∀ s w', F s w' → g8 P md ops Q S ds Yp l' (bD a (ns s)) w') → g8 P md ops Q S ds fuel l a w) : g8 P md ops Q S ds fuel l a w := h bb7
theorem i7 {fuel : Nat} {l : Array Bool} {a a' : Act} {w : World} (ha : a = a') (h : g8 P md ops Q S ds fuel l a' w) : g8 P md ops Q S ds fuel l a w := by
 subst ha
 exact h
theorem co9 {oi : Oper} {N : Option Tmp} {a : Act} {w : World} {K : Act → World → Prop} (f : FuncId) (args : Array Value) (hw : Region.wanted oi (yielded ops a.tmps) = true) (hN : oi.dst = N) (VA : (execOp a.eval oi).run P w = .ok (.enter f args) w)
 (h : Calls P f args w fun e w' => ∃ v, e = .returned v ∧ K (a.put N v) w') : if Region.wanted oi (yielded ops a.tmps) = true then Oper.wp P oi a w K Q else K (a.put N undef) w := by
 rw [if_pos hw]
 subst hN
 unfold Oper.wp
 rw [VA, Oper.upon_enter]
 refine h.mono fun e OP hh => ?_
 obtain ⟨v, rfl, X⟩ := hh
 exact X
theorem Im {f : FuncId} {fn : Func} (hf : P.funcs[f]? = some fn) (nO : (fn.name == "runtime.NumGoroutine") = false) (G : fn.body.isSome = true) (args : Array Value) (w : World) : (callFunc f args).run P w = .ok (.enter f args) w := by
 have h1 : fn.name ≠ "runtime.NumGoroutine" := by simpa using nO
 obtain ⟨c, hc⟩ := Option.isSome_iff_exists.1 G
 simp [callFunc, hf, h1, hc]
theorem p_ {oi : Oper} {N : Option Tmp} {a : Act} {w : World} {K : Act → World → Prop} {f : FuncId} {fn : Func} {as : Array Operand} {ts : Array TypeId} (hf : P.funcs[f]? = some fn) (nO : (fn.name == "runtime.NumGoroutine") = false) (G : fn.body.isSome = true) (args : Array Value)
 (hw : Region.wanted oi (yielded ops a.tmps) = true) (hN : oi.dst = N) (OT : oi.op = .call { callee := .value (.func f), args := as, argTypes := ts }) (TP : as.map a.eval = args)
 (h : Calls P f args w fun e w' => ∃ v, e = .returned v ∧ K (a.put N v) w') : if Region.wanted oi (yielded ops a.tmps) = true then Oper.wp P oi a w K Q else K (a.put N undef) w := by
 refine co9 f args hw hN ?_ h
 have he := Im hf nO G args w
 unfold execOp
 simp [OT, resolve, Deferred.ofValue, invoke, Act.eval, TP, he]
theorem G2 {rest : List Oper} {oi : Oper} {a : Act} {w : World} (N : Option Tmp) (hd : oi.dst = N) (hg : oi.guard = none) {f : FuncId} {fn : Func} {as : Array Operand} {ts : Array TypeId} (hf : P.funcs[f]? = some fn) (nO : (fn.name == "runtime.NumGoroutine") = false) (G : fn.body.isSome = true) (args : Array Value)
 (OT : oi.op = .call { callee := .value (.func f), args := as, argTypes := ts }) (TP : as.map a.eval = args)
 (h : Calls P f args w fun e w' => ∃ v, e = .returned v ∧ wpList P ops Q rest (a.put N v) w') : wpList P ops Q (oi :: rest) a w := by
 refine wpList_plain hg fun K hK => ?_
 have he := Im hf nO G args w
 have VA : (execOp a.eval oi).run P w = .ok (.enter f args) w := by
  unfold execOp
  simp [OT, resolve, Deferred.ofValue, invoke, Act.eval, TP, he]
 unfold Oper.wp
 rw [VA, Oper.upon_enter]
 refine h.mono fun e OP hh => ?_
 obtain ⟨v, rfl, X⟩ := hh
 subst hd
 exact hK _ _ X
theorem mN {oi : Oper} {N : Option Tmp} {a : Act} {w w1 : World} {v : Value} {K : Act → World → Prop} (hw : Region.wanted oi (yielded ops a.tmps) = true) (hN : oi.dst = N) (VA : (execOp a.eval oi).run P w = .ok (.value v) w1)
 (h : K (a.put N v) w1) : if Region.wanted oi (yielded ops a.tmps) = true then Oper.wp P oi a w K Q else K (a.put N undef) w := by
 rw [if_pos hw]
 subst hN
 unfold Oper.wp
 rw [VA]
 exact h
theorem hZ {oi : Oper} {a : Act} {w w1 : World} {K : Act → World → Prop} (hw : Region.wanted oi (yielded ops a.tmps) = true) (hN : oi.dst = none) (VA : (execOp a.eval oi).run P w = .ok .skip w1)
 (h : K a w1) : if Region.wanted oi (yielded ops a.tmps) = true then Oper.wp P oi a w K Q else K (a.put none undef) w := by
 rw [if_pos hw]
 unfold Oper.wp
 rw [VA]
 show K (a.put oi.dst undef) w1
 rw [hN]
 exact h
theorem B3 (n : Int) : IntKind.i64.wrap n = Go.RowKit.wrap64 n := by unfold Go.RowKit.wrap64; exact IntKind.wrap_i64 n
theorem M3 (n : Int) : IntKind.i32.wrap n = Go.RowKit.wrap32 n := by unfold Go.RowKit.wrap32; exact IntKind.wrap_i32 n
end
end Go.Proofs.YtdmnknhlibaaoaaW.PrintLast
namespace Go.Proofs.YtdmnknhlibaaoaaW.PrintLast
open Go.Proofs.YtdmnknhlibaaoaaW.PrintWords (Aside0)
def kR (md : Region.Mode) (o : Oper) : List Nat := (o.after.toList.filter (fun e => Region.binds md e)).map (fun e => e.on)
def Jm (md : Region.Mode) (ops : Array Oper) (i : Nat) (oi : Oper) : List Nat := (List.range ops.size).filter fun j => !(j == i) && match ops[j]? with
 | some oj => !(oj.after.any (fun e => Region.binds md e && e.on == i) || oi.apart ops oj)
 | none => false
def BA (md : Region.Mode) (ops : Array Oper) : Bool × List (List Nat × List Nat) := (Region.noSelect ops, (List.range ops.size).map fun i => match ops[i]? with
 | some o => (kR md o, Jm md ops i o)
 | none => ([], []))
def fN (T : List (List Nat × List Nat)) (l : List Bool) (i : Nat) : Bool := !l.getD i true && match T[i]? with
 | some r => r.1.all (fun j => l.getD j false)
 | none => false
def hP (T : List (List Nat × List Nat)) (l : List Bool) : List Nat := (List.range T.length).filter (fN T l)
def lV (T : List (List Nat × List Nat)) (l : List Bool) (i : Nat) : Bool := match T[i]? with
 | some r => r.2.all (fun j => l.getD j true)
 | none => false
def kZ (T : List (List Nat × List Nat)) (l : List Bool) : Bool := (List.range T.length).all fun j => !l.getD j false || match T[j]? with
 | some r => r.1.all (fun k => l.getD k false)
 | none => true
def YQ (T : List (List Nat × List Nat)) (i : Nat) : Nat → Nat → Bool
 | 0, _ => false
 | fuel + 1, d => match T[d]? with
  | some r => r.1.any fun j => j == i || YQ T i fuel j
  | none => false
def lZ (T : List (List Nat × List Nat)) (l : List Bool) (ds : List Nat) (i : Nat) : Bool := ds.all fun d => l.getD d true || YQ T i T.length d
section
variable {md : Region.Mode} {ops : Array Oper} {T : Bool × List (List Nat × List Nat)} {l l' li lj lk : Array Bool} {ds : List Nat} {i j k : Nat}
theorem gd (l : Array Bool) (j : Nat) (b : Bool) : l.getD j b = l.toList.getD j b := by simp [Array.getD_eq_getD_getElem?, List.getD_eq_getElem?_getD]
theorem ap6 (o : Oper) (p : Nat → Bool) : o.after.all (fun e => !Region.binds md e || p e.on) = (kR md o).all p := by
 unfold kR
 rw [← Array.all_toList]
 induction o.after.toList with
 | nil => rfl
 | cons e r ih =>
  rw [List.all_cons, ih, List.filter_cons]
  cases h : Region.binds md e <;> simp
theorem cr1 (o : Oper) (p : Nat → Bool) : o.after.any (fun e => Region.binds md e && p e.on) = (kR md o).any p := by
 unfold kR
 rw [← Array.any_toList]
 induction o.after.toList with
 | nil => rfl
 | cons e r ih =>
  rw [List.any_cons, ih, List.filter_cons]
  cases h : Region.binds md e <;> simp
theorem WY : (BA md ops).2.length = ops.size := by simp [BA]
theorem BZ {o : Oper} (h : ops[i]? = some o) : (BA md ops).2[i]? = some (kR md o, Jm md ops i o) := by
 have hi := (Array.getElem?_eq_some_iff.1 h).1
 unfold BA
 rw [List.getElem?_map, List.getElem?_range hi, Option.map_some, h]
theorem uZ (h : ops[i]? = none) : (BA md ops).2[i]? = none := by
 have hi : ops.size ≤ i := Array.getElem?_eq_none_iff.1 h
 exact List.getElem?_eq_none (by rw [WY]; exact hi)
theorem ct0 : fN (BA md ops).2 l.toList i = (!l.getD i true && ((ops[i]?).map (·.after.all fun e => !Region.binds md e || l.getD e.on false)).getD false) := by
 unfold fN
 rw [gd]
 cases h : ops[i]? with
 | none => rw [uZ h]; rfl
 | some o =>
  rw [BZ h]
  simp only [Option.map_some, Option.getD_some]
  rw [← ap6]
  simp only [gd]
theorem wV : Region.ready md ops l = hP (BA md ops).2 l.toList := by
 unfold Region.ready hP
 rw [WY]
 refine List.filter_congr (fun i _ => ?_)
 rw [ct0]
theorem af9 : Region.free md ops l i = lV (BA md ops).2 l.toList i := by
 unfold Region.free lV
 cases h : ops[i]? with
 | none => rw [uZ h]
 | some oi =>
  rw [BZ h]
  simp only [Jm]
  rw [List.all_filter]
  congr 1
  funext j
  rw [gd]
  cases hj : ops[j]? with
  | none => cases (j == i) <;> cases (l.toList.getD j true) <;> simp
  | some oj =>
   cases (j == i) <;> cases (l.toList.getD j true) <;> cases (oj.after.any (fun e => Region.binds md e && e.on == i) || oi.apart ops oj) <;> simp_all
theorem cv9 : Region.closedB md ops l = kZ (BA md ops).2 l.toList := by
 unfold Region.closedB kZ
 rw [WY]
 congr 1
 funext j
 rw [gd]
 cases h : ops[j]? with
 | none => rw [uZ h]
 | some o =>
  rw [BZ h]
  simp only
  rw [← ap6]
  simp only [gd]
theorem at2 : ∀ (fuel d : Nat), Region.reachB md ops i fuel d = YQ (BA md ops).2 i fuel d
 | 0, _ => rfl
 | fuel + 1, d => by
  unfold Region.reachB YQ
  cases h : ops[d]? with
  | none => rw [uZ h]
  | some o =>
   rw [BZ h]
   simp only
   rw [← cr1]
   congr 1
   funext e
   rw [at2 fuel]
theorem cv3 : Region.lastB md ops l ds i = lZ (BA md ops).2 l.toList ds i := by
 unfold Region.lastB lZ
 rw [WY]
 congr 1
 funext d
 rw [gd, at2]
theorem af0 (h : fN T.2 l.toList i = true) (hT : BA md ops = T) : (Region.ready md ops l).contains i = true := by
 subst hT
 rw [wV]
 unfold hP
 rw [List.contains_iff_mem, List.mem_filter, List.mem_range]
 refine ⟨?_, h⟩
 unfold fN at h
 rw [Bool.and_eq_true] at h
 cases hq : (BA md ops).2[i]? with
 | none => rw [hq] at h; simp at h
 | some r => exact (List.getElem?_eq_some_iff.1 hq).1
theorem iN (h : (l.toList.set i true == l'.toList) = true) : (l.setIfInBounds i true == l') = true := by
 rw [beq_iff_eq] at h ⊢
 apply Array.ext'
 rw [Array.toList_setIfInBounds]
 exact h
def ar9 (T : Bool × List (List Nat × List Nat)) (l l' : List Bool) (i : Nat) : Bool := T.1 && lV T.2 l i && fN T.2 l i && (l.set i true == l')
theorem z8 (hT : BA md ops = T) (h : ar9 T l.toList l'.toList i = true) : AV md ops l l' i = true := by
 simp only [ar9, Bool.and_eq_true] at h
 obtain ⟨⟨⟨h1, h2⟩, h3⟩, h4⟩ := h
 have h5 := af0 h3 hT
 have h6 := iN h4
 subst hT
 simp only [AV, Bool.and_eq_true]
 exact ⟨⟨⟨h1, by rw [af9]; exact h2⟩, h5⟩, h6⟩
def Rl (T : Bool × List (List Nat × List Nat)) (ds : List Nat) (l l' : List Bool) (i : Nat) : Bool := T.1 && lV T.2 l i && fN T.2 l i && kZ T.2 l && lZ T.2 l ds i && (l.set i true == l')
theorem cz5 (hT : BA md ops = T) (h : Rl T ds l.toList l'.toList i = true) : qV md ops ds l l' i = true := by
 simp only [Rl, Bool.and_eq_true] at h
 obtain ⟨⟨⟨⟨⟨h1, h2⟩, h3⟩, h4⟩, h5⟩, h6⟩ := h
 have h7 := af0 h3 hT
 have h8 := iN h6
 subst hT
 simp only [qV, Bool.and_eq_true]
 exact ⟨⟨⟨⟨⟨h1, by rw [af9]; exact h2⟩, h7⟩, by rw [cv9]; exact h4⟩, by rw [cv3]; exact h5⟩, h8⟩
theorem U8 (hT : BA md ops = T) (h : (hP T.2 l.toList == [i] && l.toList.set i true == l'.toList) = true) : AR md ops l l' i = true := by
 simp only [Bool.and_eq_true] at h
 obtain ⟨h1, h2⟩ := h
 subst hT
 simp only [AR, Bool.and_eq_true]
 exact ⟨by rw [wV]; exact h1, iN h2⟩
theorem OJ (hT : BA md ops = T) (h : (hP T.2 l.toList == [i, j] && l.toList.set i true == li.toList && l.toList.set j true == lj.toList) = true) : (Region.ready md ops l == [i, j] && l.setIfInBounds i true == li && l.setIfInBounds j true == lj) = true := by
 simp only [Bool.and_eq_true] at h ⊢
 obtain ⟨⟨h1, h2⟩, h3⟩ := h
 subst hT
 exact ⟨⟨by rw [wV]; exact h1, iN h2⟩, iN h3⟩
theorem Wl (hT : BA md ops = T) (h : (hP T.2 l.toList == [i, j, k] && l.toList.set i true == li.toList && l.toList.set j true == lj.toList && l.toList.set k true == lk.toList) = true) :
 (Region.ready md ops l == [i, j, k] && l.setIfInBounds i true == li && l.setIfInBounds j true == lj && l.setIfInBounds k true == lk) = true := by
 simp only [Bool.and_eq_true] at h ⊢
 obtain ⟨⟨⟨h1, h2⟩, h3⟩, h4⟩ := h
 subst hT
 exact ⟨⟨⟨by rw [wV]; exact h1, iN h2⟩, iN h3⟩, iN h4⟩
theorem XJ (hT : BA md ops = T) (h : (hP T.2 l.toList == []) = true) : (Region.ready md ops l == []) = true := by
 subst hT
 rw [wV]
 exact h
def YO (B : List Nat) (d : Nat) : List Nat → Nat
 | [] => 0
 | n :: r => (2 ^ n ||| (if n < d then B.getD n 0 else 0)) ||| YO B d r
def fJ (T : List (List Nat × List Nat)) (B : List Nat) : Bool := (List.range T.length).all fun d => match T[d]? with
 | some r => (B.getD d 0 ||| YO B d r.1) == YO B d r.1
 | none => false
theorem ao4 {B : List Nat} {d i : Nat} : ∀ {ns : List Nat}, (YO B d ns).testBit i = true → ∃ n ∈ ns, n = i ∨ (n < d ∧ (B.getD n 0).testBit i = true)
 | [], h => by simp [YO] at h
 | n :: r, h => by
  unfold YO at h
  rw [Nat.testBit_or, Nat.testBit_or, Bool.or_eq_true, Bool.or_eq_true] at h
  rcases h with (h | h) | h
  ·rw [Nat.testBit_two_pow] at h
   exact ⟨n, List.mem_cons_self, .inl (by simpa using h)⟩
  ·by_cases hn : n < d
   ·rw [if_pos hn] at h
    exact ⟨n, List.mem_cons_self, .inr ⟨hn, h⟩⟩
   ·rw [if_neg hn] at h
    simp at h
  ·obtain ⟨m, hm, h2⟩ := ao4 h
   exact ⟨m, List.mem_cons_of_mem _ hm, h2⟩
theorem ag9 {T : List (List Nat × List Nat)} {B : List Nat} (hB : fJ T B = true) : ∀ (fuel d : Nat), d < fuel → d < T.length → (B.getD d 0).testBit i = true → YQ T i fuel d = true
 | 0, d, h, _, _ => by omega
 | fuel + 1, d, h, hd, G => by
  have h1 := List.all_eq_true.1 hB d (List.mem_range.2 hd)
  cases hr : T[d]? with
  | none => rw [hr] at h1; simp at h1
  | some r =>
   rw [hr] at h1
   simp only [beq_iff_eq] at h1
   have h2 : (YO B d r.1).testBit i = true := by rw [← h1, Nat.testBit_or, G, Bool.true_or]
   obtain ⟨n, hn, h3⟩ := ao4 h2
   unfold YQ
   rw [hr]
   simp only
   rw [List.any_eq_true]
   refine ⟨n, hn, ?_⟩
   rcases h3 with rfl | ⟨h4, h5⟩
   ·simp
   ·rw [ag9 hB fuel n (by omega) (by omega) h5, Bool.or_true]
def an5 (T : List (List Nat × List Nat)) (B : List Nat) (l : List Bool) (ds : List Nat) (i : Nat) : Bool := ds.all fun d => l.getD d true || (decide (d < T.length) && (B.getD d 0).testBit i)
def ao9 (T : Bool × List (List Nat × List Nat)) (B : List Nat) (ds : List Nat) (l l' : List Bool) (i : Nat) : Bool := T.1 && lV T.2 l i && fN T.2 l i && kZ T.2 l && an5 T.2 B l ds i && (l.set i true == l')
theorem XC {B : List Nat} (hT : BA md ops = T) (hB : fJ T.2 B = true) (h : ao9 T B ds l.toList l'.toList i = true) : qV md ops ds l l' i = true := by
 refine cz5 hT ?_
 simp only [ao9, Rl, Bool.and_eq_true] at h ⊢
 obtain ⟨⟨⟨⟨⟨h1, h2⟩, h3⟩, h4⟩, h5⟩, h6⟩ := h
 refine ⟨⟨⟨⟨⟨h1, h2⟩, h3⟩, h4⟩, ?_⟩, h6⟩
 unfold an5 at h5
 unfold lZ
 rw [List.all_eq_true] at h5 ⊢
 intro d hd
 have h7 := h5 d hd
 rw [Bool.or_eq_true, Bool.and_eq_true, decide_eq_true_eq] at h7
 rcases h7 with h7 | ⟨h8, h9⟩
 ·rw [h7, Bool.true_or]
 ·rw [ag9 hB _ d h8 h8 h9, Bool.or_true]
theorem PJ {P : Program} {Q : Exit → Act → World → Prop} {S : World → Prop} {n : Nat} {a : Act} {w : World} {B : List Nat} (hT : BA md ops = T) (hB : fJ T.2 B = true) (h : Aside0 (BA md ops = T) → Aside0 (fJ T.2 B = true) → g8 P md ops Q S ds n l a w) : g8 P md ops Q S ds n l a w := h ⟨hT⟩ ⟨hB⟩
end
def YJ : Code → Nat → Option (Array Oper)
 | .region id ops _, k => if id == k then some ops else none
 | .seq a b, k => match YJ a k with
  | some o => some o
  | none => YJ b k
 | .cond _ a b, k => match YJ a k with
  | some o => some o
  | none => YJ b k
 | .block _ c, k => YJ c k
 | .loop c, k => YJ c k
 | .scope c, k => YJ c k
 | .rangeFunc _ _ a b, k => match YJ a k with
  | some o => some o
  | none => YJ b k
 | _, _ => none
def opsOf (f : Func) (k : Nat) : Array Oper := ((f.body.bind fun c => YJ c k)).getD #[]
end Go.Proofs.YtdmnknhlibaaoaaW.PrintLast
namespace Go.Proofs.YtdmnknhlibaaoaaW.PrintWords
open Go.RowKit
namespace Kd
section
variable {α : Type} {d : Kd α} {e base g o n cap : Nat} {ok okp : Nat → Prop} {w W : World} {v : Value} {xs : List α}
end
section
variable {α : Type} {enc : α → Value} {h1 : ∀ x, (enc x).oneCell' = true} {e base g o n cap : Nat} {ok : Nat → Prop} {W : World} {xs : List α}
end
end Kd
end Go.Proofs.YtdmnknhlibaaoaaW.PrintWords
namespace Go.Proofs.YtdmnknhlibaaoaaW.PrintWords
open Go.RowKit
namespace Kd
def tag {α : Type} (f : Nat → Nat) (d : Kd α) : Kd (α × Nat) where
 sz := d.sz
 E := d.E
 K := fun w x cs => d.K w x.1 cs
 M := fun w base ok x cs => d.M w base (fun k => ok k ∧ f k = x.2) x.1 cs
 K_len := fun h => d.K_len h
 K_one := fun h => d.K_one h
 K_below := fun G h => d.K_below G h
 K_of_M := fun h => d.K_of_M h
 M_mono := fun b4 h => d.M_mono (fun k X => ⟨b4 k X.1, X.2⟩) h
 M_bound := fun h => d.M_mono (fun _ X => ⟨⟨X.1.1, X.2⟩, X.1.2⟩) (d.M_bound h)
 M_move := fun hm h => d.M_move (fun k X => hm k X.1) h
 M_lower := fun G h => d.M_lower G h
def raw (sz : Nat) : Kd (List Value) where
 sz := sz
 E := []
 K := fun _ x cs => cs = x ∧ cs.length = sz ∧ ∀ u ∈ cs, u.oneCell' = true
 M := fun _ _ _ x cs => cs = x ∧ cs.length = sz ∧ ∀ u ∈ cs, u.oneCell' = true
 K_len := fun h => h.2.1
 K_one := fun h => h.2.2
 K_below := fun _ h => h
 K_of_M := fun h => h
 M_mono := fun _ h => h
 M_bound := fun h => h
 M_move := fun _ h => h
 M_lower := fun _ h => h
def S {α : Type} (d : Kd α) (e : Nat) (w : World) (base : Nat) (ok : Nat → Prop) (v : Value) (xs : List α) : Prop := ∃ f, (tag f d).R e w base ok v xs.zipIdx
section
variable {α β : Type} {d : Kd α} {d' : Kd β} {e e' : Nat} {w w1 W : World} {base b : Nat} {ok ok' BQ Uz : Nat → Prop} {u v : Value} {xs : List α} {ys : List β}
theorem co8 {xs : List α} {j : Nat} {p : α} (h : xs[j]? = some p) : xs.zipIdx[j]? = some (p, j) := by rw [List.getElem?_zipIdx, h, Nat.zero_add]; rfl
theorem oP (h : S d e w base ok v xs) : d.R e w base ok v xs := by
 obtain ⟨f, h0, inner, ho, hr⟩ := h
 rw [List.length_zipIdx] at ho
 exact ⟨h0, inner, ho, by have := hr.1; rw [List.length_zipIdx] at this; exact this, fun j p hj => d.M_mono (fun _ X => X.1) (hr.2 j (p, j) (co8 hj))⟩
theorem PY (hE : d.E = []) (h : d.R e w base ok v xs) : d.R e w base (fun k => some k = v.ownBlock) v xs := by
 obtain ⟨h0, inner, ho, hr⟩ := h
 refine ⟨fun k X => X.symm, inner, ho, hr.imp_ (fun p c hp => d.M_mono (fun k X => ?_) (d.M_bound hp))⟩
 obtain ⟨_, _, _, q, hq, _⟩ := X
 rw [hE] at hq
 cases hq
theorem nP (d : Kd α) (e : Nat) (w : World) (base : Nat) (ok : Nat → Prop) : S d e w base ok (.slice none 0 0) [] := ⟨fun _ => 0, fI _ _ _ _ _⟩
theorem kD (h : S d e w base ok v xs) (b4 : ∀ k, ok k → ok' k) : S d e w base ok' v xs := by
 obtain ⟨f, h⟩ := h
 exact ⟨f, Y5 h b4⟩
theorem bI (h : S d e w base ok v xs) : S d e w base (fun k => ok k ∧ base ≤ k ∧ k < w.heap.size ∧ ∃ q, q ∈ e :: d.E ∧ ∃ cells, w.heap[k]? = some (.cells cells q (0, 0))) v xs := by
 obtain ⟨f, h⟩ := h
 exact ⟨f, aI h⟩
theorem da1 (h : S d e w base ok v xs) (hm : ∀ k, ok k → w1.heap[k]? = w.heap[k]?) : S d e w1 base ok v xs := by
 obtain ⟨f, h⟩ := h
 exact ⟨f, ZQ h hm⟩
theorem aj9 {SD : Nat} (h : S d e w base ok v xs) (G : SD ≤ base) : S d e w SD ok v xs := by
 obtain ⟨f, h⟩ := h
 exact ⟨f, j9 h G⟩
theorem AZ (h : S d e w base ok v xs) (hm : ∀ k, ok k → k < w.heap.size → w1.heap[k]? = w.heap[k]?) : S d e w1 base ok v xs :=
 kD (da1 (bI h) (fun k X => hm k X.1 X.2.2.1)) (fun _ X => X.1)
theorem kJ (h : S d e w base ok v xs) (G : Below w.heap.size w w1) : S d e w1 base ok v xs := AZ h (fun k _ X => G.block k X)
theorem WH (h : S d e w base ok v xs) (o : Obj) : S d e (w.alloc o) base ok v xs := kJ h (I6 (Below.refl _ _) o)
theorem OF (h : S d e w base ok v xs) : S d e w.drew base ok v xs := kJ h (iZ (Below.refl _ _))
theorem gI (h : S d e w base ok v xs) (m : Nat) : S d e (w.drewN m) base ok v xs := kJ h (q5 (Below.refl _ _) m)
theorem yB (h : S d e w base ok v xs) {p : Addr} (b4 : ∀ k, ok k → k ≠ p.block) (u : Value) : S d e (w.setCell p u) base ok v xs := AZ h (fun k ho _ => Below.heap_setCell w p u k (b4 k ho))
theorem co3 (h : S d e w base ok v xs) {g : Nat} (X : F1 w w1 g none) (b4 : ∀ k, ok k → k ≠ g) : S d e w1 base ok v xs := AZ h (fun k ho l4 => X.2 k l4 (b4 k ho) (by simp))
theorem NJ (h : S d e w base ok v xs) {g t : Nat} {cells : Array Value} (G : w.heap[g]? = some (.cells cells t (0, 0))) (ht : ∀ q, q ∈ e :: d.E → q ≠ t) : S d e w base (fun k => ok k ∧ k ≠ g) v xs := by
 obtain ⟨f, h⟩ := h
 exact ⟨f, kA h G ht⟩
theorem zR (h : S d e w base ok v xs) {g t : Nat} {cells : Array Value} (G : w.heap[g]? = some (.cells cells t (0, 0))) (ht : ∀ q, q ∈ e :: d.E → q ≠ t) (j : Nat) (u : Value) : S d e (w.setCell ⟨g, j, none⟩ u) base ok v xs :=
 kD (yB (p := ⟨g, j, none⟩) (NJ h G ht) (fun _ X => X.2) u) (fun _ X => X.1)
theorem cP (h : S d e w base ok v xs) : ∀ k, v.ownBlock = some k → ∃ cells, w.heap[k]? = some (.cells cells e (0, 0)) := Rm (oP h)
theorem cy4 (h : S d e w base ok v xs) : ∀ k, v.ownBlock = some k → k < w.heap.size := D_ (oP h)
theorem Zm (h : S d e w base ok v xs) : ∀ k, v.ownBlock = some k → base ≤ k := A_ (oP h)
theorem NZ (h : S d e W base ok u xs) (G7 : ∀ k, v.ownBlock = some k → W.heap.size ≤ k) (G : Below W.heap.size W w1) : S d e w1 base (fun k => ok k ∧ some k ≠ v.ownBlock) u xs := by
 obtain ⟨f, h⟩ := h
 exact ⟨f, kF h G7 G⟩
theorem cu2 (h : S d e w1 W.heap.size ok v xs) (l4 : ∀ k, u.ownBlock = some k → k < W.heap.size) : S d e w1 W.heap.size (fun k => ok k ∧ some k ≠ u.ownBlock) v xs := by
 obtain ⟨f, h⟩ := h
 exact ⟨f, iF h l4⟩
theorem cx1 {v1 : Value} (h : S d e W base (fun k => ok k ∧ some k ≠ v.ownBlock) u xs) (hg : W.grownBy w1 v.ownBlock) (O1 : v1.ownBlock = v.ownBlock ∨ ∃ b, v1.ownBlock = some b ∧ W.heap.size ≤ b) : S d e w1 base (fun k => ok k ∧ some k ≠ v1.ownBlock) u xs := by
 obtain ⟨f, h⟩ := h
 exact ⟨f, QB h hg O1⟩
theorem cv4 {f f' : Nat → Nat} {zs : List (α × Nat)} (h : (tag f d).R e w base ok v zs) (hf : ∀ k, ok k → k < w.heap.size → f' k = f k) : (tag f' d).R e w base ok v zs := by
 obtain ⟨h0, inner, ho, hr⟩ := aI h
 exact ⟨fun k X => (h0 k X).1, inner, ho, hr.1, fun j p hj => d.M_mono (fun k X => ⟨⟨X.1.1.1, X.1.2⟩, (hf k X.1.1.1 X.1.1.2.2.1).trans X.2⟩) (hr.2 j p hj)⟩
end
section
variable {α β : Type} {d : Kd α} {d' : Kd β} {e e' g : Nat} {w w1 W : World} {base b : Nat} {ok ok' BQ Uz : Nat → Prop} {u v : Value} {xs : List α} {ys : List β}
theorem dI (h : S d e w base ok v xs) {t : Nat} {cells : Array Value} (G : w.heap[g]? = some (.cells cells t (0, 0))) (ht : e ≠ t) : some g ≠ v.ownBlock := n9 (oP h) G ht
theorem iJ (h : S d e w base ok v xs) : ∃ A c, v = .slice A xs.length c := Q9 (oP h)
theorem sZ {A : Option Addr} {n c : Nat} (h : S d e w base ok (.slice A n c) xs) : n = xs.length ∧ n ≤ c ∧ d.C w A xs.length xs := n_ (oP h)
theorem cn9 (h : S d e w base ok v xs) (a : Nat) (ha : w.heap.size ≤ a) : S d e w base (fun k => ok k ∧ k ≠ a) v xs := kD (bI h) (fun k X => ⟨X.1, by have := X.2.2.1; omega⟩)
theorem cm6 (xs : List α) (p : α) : (xs ++ [p]).zipIdx = xs.zipIdx ++ [(p, xs.length)] := by rw [List.zipIdx_append]; simp
end
section
open Classical in
theorem cq0 {α : Type} {d : Kd α} {e base : Nat} {BQ : Nat → Prop} {w : World} {v : Value} {xs : List α} (h : S d e w base BQ v xs) (m : Nat) (okp : Nat → Prop) (hap : ∀ k, okp k → ¬ BQ k) : ∃ f, (∀ k, okp k → f k = m) ∧ (tag f d).R e w base BQ v xs.zipIdx := by
 obtain ⟨f, h⟩ := h
 exact ⟨fun k => if okp k then m else f k, fun k X => if_pos X, cv4 h (fun k X _ => if_neg (fun h2 => hap k h2 X))⟩
variable {P : Program} {ops : Array Oper} {rest : List Oper} {o : Oper} {a : Act} {Q : Exit → Act → World → Prop} {Kc : Act → World → Prop} {α : Type}
theorem wZ (d : Kd α) {w0 W : World} (base : Nat) (zC : o.guard = none) (s x : Operand) (t e : TypeId) (z : Value) (bytes : Nat)
 (ho : o.op = .call { callee := .builtin .append, args := #[s, x], argTypes := #[t, t] })
 (ht : P.underlying t = some (.slice e)) (LC : (P.info? e).map (fun i => (i.zero, i.size, i.bytes)) = some (some z, d.sz, bytes)) (hz : z.cells.size = d.sz) (pE : 0 < d.sz) (IA : 0 < bytes)
 (v : Value) (xs : List α) (p : α) (cs : List Value) (ok okp : Nat → Prop) (hs : a.eval s = v) (hx : a.eval x = .slice (some ⟨W.heap.size, 0, none⟩) 1 1) (hp : d.M W base okp p cs) (YG : ∀ k, okp k → ok k ∧ some k ≠ v.ownBlock) (MC : ∀ k, W.heap.size ≤ k → ok k)
 (HO : S d e W base (fun k => ok k ∧ ¬ okp k) v xs) (I : Below base w0 W) (G7 : base ≤ W.heap.size) (hl : (xs.length + 1) * bytes ≤ 140737488355328)
 (h : ∀ v1 w1, S d e w1 base ok v1 (xs ++ [p]) → Below base w0 w1 → W.grownBy w1 v.ownBlock → (v1.ownBlock = v.ownBlock ∨ ∃ b, v1.ownBlock = some b ∧ W.heap.size ≤ b) → wpList P ops Q rest (a.put o.dst v1) w1) :
 wpList P ops Q (o :: rest) a (W.alloc (.cells cs.toArray e)) := by
 obtain ⟨f, hf, hR⟩ := cq0 HO xs.length okp (fun _ X h2 => h2.2 X)
 refine IE (tag f d) base zC s x t e z bytes ho ht LC hz pE IA v xs.zipIdx (p, xs.length) cs ok okp hs hx (d.M_mono (fun k X => ⟨X, hf k X⟩) hp) YG MC (Y5 hR (fun _ X => X.1)) I G7 (by rw [List.length_zipIdx]; exact hl) ?_
 intro v1 w1 hr
 rw [← cm6] at hr
 exact h v1 w1 ⟨f, hr⟩
end
def gap {α : Type} (f : Nat → Nat) (d : Kd α) (i : Nat) (c : List Value) : Kd (α × Nat) where
 sz := d.sz
 E := d.E
 K := fun w x cs => (x.2 = i → cs = c ∧ cs.length = d.sz ∧ ∀ u ∈ cs, u.oneCell' = true) ∧ (x.2 ≠ i → d.K w x.1 cs)
 M := fun w base ok x cs => (x.2 = i → cs = c ∧ cs.length = d.sz ∧ ∀ u ∈ cs, u.oneCell' = true) ∧ (x.2 ≠ i → d.M w base (fun k => ok k ∧ f k = x.2) x.1 cs)
 K_len := fun {w x cs} h => by
  by_cases hx : x.2 = i
  ·exact (h.1 hx).2.1
  ·exact d.K_len (h.2 hx)
 K_one := fun {w x cs} h => by
  by_cases hx : x.2 = i
  ·exact (h.1 hx).2.2
  ·exact d.K_one (h.2 hx)
 K_below := fun G h => ⟨h.1, fun hx => d.K_below G (h.2 hx)⟩
 K_of_M := fun h => ⟨h.1, fun hx => d.K_of_M (h.2 hx)⟩
 M_mono := fun b4 h => ⟨h.1, fun hx => d.M_mono (fun k X => ⟨b4 k X.1, X.2⟩) (h.2 hx)⟩
 M_bound := fun h => ⟨h.1, fun hx => d.M_mono (fun _ X => ⟨⟨X.1.1, X.2⟩, X.1.2⟩) (d.M_bound (h.2 hx))⟩
 M_move := fun hm h => ⟨h.1, fun hx => d.M_move (fun k X => hm k X.1) (h.2 hx)⟩
 M_lower := fun G h => ⟨h.1, fun hx => d.M_lower G (h.2 hx)⟩
def H {α : Type} (d : Kd α) (e : Nat) (w : World) (base : Nat) (ok : Nat → Prop) (v : Value) (xs : List α) (i : Int) (pT : Nat → Prop) (c : List Value) : Prop :=
 (∀ k, pT k → ok k) ∧ ∃ f, (gap f d i.toNat c).R e w base (fun k => ok k ∧ ¬ pT k) v xs.zipIdx
section
variable {α β : Type} {d : Kd α} {e e' g n cap : Nat} {w w1 W : World} {base : Nat} {ok ok' pT okp : Nat → Prop} {u v : Value} {xs : List α} {i : Int} {c : List Value}
end
section
variable {P : Program} {ops : Array Oper} {rest : List Oper} {o : Oper} {a : Act} {Q : Exit → Act → World → Prop} {α : Type}
end
end Kd
end Go.Proofs.YtdmnknhlibaaoaaW.PrintWords
namespace Go.Proofs.YtdmnknhlibaaoaaW.PrintWords
open Go.RowKit
namespace Kd
section
variable {α : Type} {n : Nat} {d : Kd α} {hs : 0 < d.sz} {w : World} {base : Nat} {ok : Nat → Prop} {xs : List α} {cs : List Value}
end
section
variable {α : Type} {n : Nat} {enc : α → Value} {h1 : ∀ x, (enc x).oneCell' = true} {hs : 0 < (scalar enc h1).sz} {w : World} {base : Nat} {ok : Nat → Prop} {xs : List α} {cs : List Value}
end
end Kd
end Go.Proofs.YtdmnknhlibaaoaaW.PrintWords
namespace Go.Proofs.YtdmnknhlibaaoaaW.PrintWords
open Go.RowKit
section
variable {P : Program}
end
namespace Kd
section
variable {P : Program} {ops : Array Oper} {rest : List Oper} {o : Oper} {a : Act} {Q : Exit → Act → World → Prop} {Kc : Act → World → Prop} {α : Type}
end
section
variable {α : Type} {d : Kd α} {e : Nat} {w : World} {base : Nat} {ok : Nat → Prop} {v : Value} {xs : List α}
end
section
variable {P : Program} {ops : Array Oper} {rest : List Oper} {o : Oper} {a : Act} {Q : Exit → Act → World → Prop} {Kc : Act → World → Prop} {α : Type}
end
end Kd
end Go.Proofs.YtdmnknhlibaaoaaW.PrintWords
namespace Go.Proofs.YtdmnknhlibaaoaaW.PrintWords
open Go.RowKit
namespace Kd
structure Heap {α : Type} (d : Kd α) : Prop where
 K : ∀ {w w1 : World} {x : α} {cs : List Value}, (∀ k, k < w.heap.size → w1.heap[k]? = w.heap[k]?) → d.K w x cs → d.K w1 x cs
theorem cn7 {w w1 : World} (G : ∀ k, k < w.heap.size → w1.heap[k]? = w.heap[k]?) {a : Addr} {v : Value} (h : w.cell? a = some v) : w1.cell? a = some v := by
 have := G a.block (World.block_lt_of_cell? w a h)
 simpa [World.cell?, this] using h
theorem Heap.C {α : Type} {d : Kd α} (hd : Heap d) {w w1 : World} {A : Option Addr} {n : Nat} {xs : List α} (G : ∀ k, k < w.heap.size → w1.heap[k]? = w.heap[k]?) (h : d.C w A n xs) : d.C w1 A n xs :=
 ⟨h.1, h.2.1, fun hn => by
  obtain ⟨ad, e, hc⟩ := h.2.2 hn
  refine ⟨ad, e, fun j p hj => ?_⟩
  obtain ⟨c, hs, hr, EG⟩ := hc j p hj
  exact ⟨c, hs, hd.K G hr, fun i u hu => cn7 G (EG i u hu)⟩⟩
section
variable {α : Type} {d : Kd α} {e base g n c : Nat} {ok : Nat → Prop} {w w0 W : World} {A : Option Addr} {xs : List α}
end
end Kd
end Go.Proofs.YtdmnknhlibaaoaaW.PrintWords
namespace Go.Proofs.YtdmnknhlibaaoaaW.PrintWords
open Go.RowKit
def Kept (w W : World) (S : Nat → Prop) : Prop := w.heap.size ≤ W.heap.size ∧ ∀ i, i < w.heap.size → ¬ S i → W.heap[i]? = w.heap[i]?
section
variable {w W W2 : World} {S S2 S' : Nat → Prop}
theorem Kept.refl (w : World) (S : Nat → Prop) : Kept w w S := ⟨Nat.le_refl _, fun _ _ _ => rfl⟩
theorem Kept.of_below (h : Below w.heap.size w W) (S : Nat → Prop) : Kept w W S := ⟨h.size, fun i hi _ => h.block i hi⟩
theorem Kept.mono (h : Kept w W S) (hs : ∀ k, S k → S' k) : Kept w W S' := ⟨h.1, fun i hi hn => h.2 i hi (fun X => hn (hs i X))⟩
theorem Kept.then_ (h : Kept w W S) (k : Kept W W2 S2) (hs : ∀ k, S2 k → S k ∨ w.heap.size ≤ k) : Kept w W2 S :=
 ⟨Nat.le_trans h.1 k.1, fun i hi hn => (k.2 i (Nat.lt_of_lt_of_le hi h.1) (fun h2 => (hs i h2).elim hn (fun h3 => by omega))).trans (h.2 i hi hn)⟩
theorem Kept.of_grown {row : Option Nat} (hg : W.grownBy W2 row) (h : Kept w W S) (hr : ∀ k, row = some k → S k ∨ w.heap.size ≤ k) : Kept w W2 S :=
 h.then_ (S2 := fun k => row = some k) ⟨hg.size, fun i hi hn => hg.block i hi (fun he => hn he.symm)⟩ hr
theorem Kept.below (h : Kept w W S) (G : Below W.heap.size W W2) : Kept w W2 S := h.then_ (Kept.of_below G (fun _ => False)) (fun _ X => X.elim)
theorem Kept.alloc (h : Kept w W S) (o : Obj) : Kept w (W.alloc o) S := h.below (I6 (Below.refl _ _) o)
theorem Kept.drew (h : Kept w W S) : Kept w W.drew S := h
theorem Kept.drewN (h : Kept w W S) (m : Nat) : Kept w (W.drewN m) S := h
theorem Kept.setCell (h : Kept w W S) {p : Addr} (hp : S p.block ∨ w.heap.size ≤ p.block) (u : Value) : Kept w (W.setCell p u) S :=
 h.then_ (S2 := fun k => k = p.block) ⟨by simp [World.setCell], fun i _ hn => Below.heap_setCell W p u i hn⟩ (fun k X => by rw [X]; exact hp)
theorem Kept.keep {g : Nat} (h : F1 w W g none) (k : Kept W W2 S2) (hs : ∀ k, S2 k → w.heap.size ≤ k) : F1 w W2 g none :=
 ⟨Nat.le_trans h.1 k.1, fun i hi hg hr => (k.2 i (Nat.lt_of_lt_of_le hi h.1) (fun h2 => by have := hs i h2; omega)).trans (h.2 i hi hg hr)⟩
theorem at1 {g : Nat} {o : Obj} (G : W.heap[g]? = some o) (X : Kept W W2 S) (J8 : ¬ S g) : W2.heap[g]? = some o := (X.2 g (K8 G) J8).trans G
end
namespace Kd
section
variable {α : Type} {d : Kd α} {e base n c : Nat} {ok pT S S2 : Nat → Prop} {w w0 W W1 W2 : World} {v : Value} {A : Option Addr} {xs : List α} {i : Int} {cs : List Value}
end
end Kd
end Go.Proofs.YtdmnknhlibaaoaaW.PrintWords
namespace Go.Proofs.YtdmnknhlibaaoaaW.PrintWords
open Go.RowKit
def Foot (P : World → Prop) (W : World) (ok : Nat → Prop) : Prop := ∀ W' : World, (∀ k, ok k → k < W.heap.size → W'.heap[k]? = W.heap[k]?) → P W'
theorem cs3 {W W1 : World} {k : Nat} (h : W1.heap[k]? = W.heap[k]?) (l4 : k < W.heap.size) : k < W1.heap.size := by
 rw [Array.getElem?_eq_getElem l4] at h
 exact (Array.getElem?_eq_some_iff.1 h).1
namespace Foot
variable {P Q : World → Prop} {W W1 : World} {ok ok' : Nat → Prop}
theorem now (h : Foot P W ok) : P W := h W (fun _ _ _ => rfl)
theorem mono (h : Foot P W ok) (b4 : ∀ k, ok k → ok' k) : Foot P W ok' := fun W' hW => h W' (fun k X l4 => hW k (b4 k X) l4)
theorem bound (h : Foot P W ok) : Foot P W (fun k => ok k ∧ k < W.heap.size) := fun W' hW => h W' (fun k X l4 => hW k ⟨X, l4⟩ l4)
theorem step (h : Foot P W ok) (hm : ∀ k, ok k → k < W.heap.size → W1.heap[k]? = W.heap[k]?) : Foot P W1 ok := fun W' hW => h W' (fun k X l4 => (hW k X (cs3 (hm k X l4) l4)).trans (hm k X l4))
end Foot
namespace Kd
def F {α : Type} (d : Kd α) (W : World) (ok : Nat → Prop) (A : Option Addr) (n : Nat) (xs : List α) : Prop := Foot (fun W => d.C W A n xs) W ok
def FK {α : Type} (d : Kd α) (W : World) (ok : Nat → Prop) (x : α) (c : List Value) : Prop := Foot (fun W => d.K W x c) W ok
section
variable {α β : Type} {d : Kd α} {e base n n' cc g N : Nat} {ok ok' okp S : Nat → Prop} {w w0 w1 W W1 : World} {A A' : Option Addr} {u v v1 : Value} {xs : List α} {xs' : List β} {d' : Kd β} {x : α} {c : List Value}
theorem aq8 (d : Kd α) (W : World) (ok : Nat → Prop) : F d W ok none ([] : List α).length [] := fun W' _ => as7 d W'
theorem fV (h : d.R e W base ok (.slice A n cc) xs) : F d W ok A n xs := fun W' hW => by
 have h2 := n_ (XO h hW)
 rw [h2.1]
 exact h2.2.2
theorem gV (h : FK d W ok x c) : d.K W x c := Foot.now h
theorem gZ (h : FK d W ok x c) (b4 : ∀ k, ok k → ok' k) : FK d W ok' x c := Foot.mono h b4
theorem Zk (h : FK d W ok x c) : FK d W (fun k => ok k ∧ k < W.heap.size) x c := Foot.bound h
theorem Al (h : FK d W ok x c) (hm : ∀ k, ok k → k < W.heap.size → W1.heap[k]? = W.heap[k]?) : FK d W1 ok x c := Foot.step h hm
theorem cn4 (h : d.M W base ok x c) : FK d W ok x c := fun _ hW => d.K_of_M (ap8 h hW)
end
end Kd
end Go.Proofs.YtdmnknhlibaaoaaW.PrintWords
namespace Go.Proofs.YtdmnknhlibaaoaaW.PrintWords
open Go.RowKit
namespace Kd
def chunks (sz : Nat) (n : Nat) (inner : List Value) : List (List Value) := (List.range n).map fun j => (inner.drop (j * sz)).take sz
theorem jN (sz n : Nat) (inner : List Value) : (chunks sz n inner).length = n := by simp [chunks]
theorem cv6 {sz n : Nat} {inner : List Value} {j : Nat} (hj : j < n) : (chunks sz n inner)[j]? = some ((inner.drop (j * sz)).take sz) := by simp [chunks, hj]
theorem Kn {sz n : Nat} {inner : List Value} {j : Nat} {c : List Value} (h : (chunks sz n inner)[j]? = some c) : c = (inner.drop (j * sz)).take sz := by
 have hj : j < n := by have := (List.getElem?_eq_some_iff.1 h).1; rwa [jN] at this
 rw [cv6 hj] at h
 injection h with h
 exact h.symm
theorem ar0 {α : Type} {Rr : α → List Value → Prop} {sz : Nat} {xs : List α} {inner : List Value} (h : J2 Rr sz xs inner) (hR : ∀ x c, Rr x c → c.length = sz ∧ ∀ u ∈ c, u.oneCell' = true) : J2 (fun x cs => cs = x ∧ cs.length = sz ∧ ∀ u ∈ cs, u.oneCell' = true) sz (chunks sz xs.length inner) inner := by
 refine ⟨by rw [jN]; exact h.1, fun j p hj => ?_⟩
 have RP : j < xs.length := by have := (List.getElem?_eq_some_iff.1 hj).1; rwa [jN] at this
 have hp := Kn hj
 exact ⟨hp.symm, hR _ _ (h.2 j _ (List.getElem?_eq_getElem RP))⟩
section
variable {α : Type} {d : Kd α} {e base n cc g : Nat} {ok ok' okp S : Nat → Prop} {w w1 W W1 : World} {A : Option Addr} {u v v1 : Value} {xs : List α} {x : α} {c : List Value}
def N {α : Type} (d : Kd α) (e : Nat) (w : World) (base : Nat) (ok : Nat → Prop) (v : Value) (xs : List α) : Prop :=
 (∀ k, v.ownBlock = some k → ok k) ∧ ∃ rows : List (List Value), rows.length = xs.length ∧ (raw d.sz).R e w base (fun k => some k = v.ownBlock) v rows ∧ ∀ (j : Nat) (x : α) (c : List Value), xs[j]? = some x → rows[j]? = some c → FK d w (fun k => ok k ∧ some k ≠ v.ownBlock) x c
theorem am5 {sz : Nat} {rows : List (List Value)} (h : (raw sz).R e w base ok v rows) : (raw sz).R e w base (fun k => some k = v.ownBlock) v rows := PY rfl h
theorem cy0 {sz : Nat} {rows : List (List Value)} (h : (raw sz).R e w base ok v rows) : (raw sz).R e w base (fun _ => True) v rows := Y5 h (fun _ _ => trivial)
theorem R_N (h : d.R e w base ok v xs) : N d e w base ok v xs := by
 obtain ⟨h0, inner, ho, hr⟩ := h
 refine ⟨h0, chunks d.sz xs.length inner, jN _ _ _, ⟨fun k X => X.symm, inner, by rw [jN]; exact ho, ar0 hr (fun x c hp => ⟨d.K_len (d.K_of_M hp), d.K_one (d.K_of_M hp)⟩)⟩, fun j x c hx hc => ?_⟩
 rw [Kn hc]
 exact cn4 (hr.2 j x hx)
theorem tL (h : Kd.S d e w base ok v xs) : N d e w base ok v xs := R_N (oP h)
theorem ap4 (d : Kd α) (e : Nat) (w : World) (base : Nat) (ok : Nat → Prop) : N d e w base ok (.slice none 0 0) [] := R_N (fI _ _ _ _ _)
theorem J6 (h : N d e w base ok v xs) (b4 : ∀ k, ok k → ok' k) : N d e w base ok' v xs := by
 obtain ⟨h0, rows, hl, hR, hf⟩ := h
 exact ⟨fun k X => b4 k (h0 k X), rows, hl, hR, fun j x c hx hc => gZ (hf j x c hx hc) (fun k X => ⟨b4 k X.1, X.2⟩)⟩
theorem B_ (h : N d e w base ok v xs) : ∀ k, v.ownBlock = some k → k < w.heap.size := by
 obtain ⟨_, rows, _, hR, _⟩ := h
 exact D_ hR
theorem qL (h : N d e w base ok v xs) : ∀ k, v.ownBlock = some k → base ≤ k := by
 obtain ⟨_, rows, _, hR, _⟩ := h
 exact A_ hR
theorem aE (h : N d e w base ok v xs) : ∀ k, v.ownBlock = some k → ∃ cells, w.heap[k]? = some (.cells cells e (0, 0)) := by
 obtain ⟨_, rows, _, hR, _⟩ := h
 exact Rm hR
theorem Cm (h : N d e w base ok v xs) {t : Nat} {cells : Array Value} (G : w.heap[g]? = some (.cells cells t (0, 0))) (ht : e ≠ t) : some g ≠ v.ownBlock := by
 obtain ⟨_, rows, _, hR, _⟩ := h
 exact n9 hR G ht
theorem Dm (h : N d e w base ok v xs) : N d e w base (fun k => ok k ∧ k < w.heap.size) v xs := by
 have l4 := B_ h
 obtain ⟨h0, rows, hl, hR, hf⟩ := h
 exact ⟨fun k X => ⟨h0 k X, l4 k X⟩, rows, hl, hR, fun j x c hx hc => gZ (Zk (hf j x c hx hc)) (fun k X => ⟨⟨X.1.1, X.2⟩, X.1.2⟩)⟩
theorem NF {SD : Nat} (h : N d e w base ok v xs) (G : SD ≤ base) : N d e w SD ok v xs := by
 obtain ⟨h0, rows, hl, hR, hf⟩ := h
 exact ⟨h0, rows, hl, j9 hR G, hf⟩
theorem YY (h : N d e w base ok v xs) (hm : ∀ k, ok k → k < w.heap.size → w1.heap[k]? = w.heap[k]?) : N d e w1 base ok v xs := by
 obtain ⟨h0, rows, hl, hR, hf⟩ := h
 exact ⟨h0, rows, hl, XO hR (fun k X l4 => hm k (h0 k X.symm) l4), fun j x c hx hc => Al (hf j x c hx hc) (fun k X l4 => hm k X.1 l4)⟩
theorem Y3 (h : N d e w base ok v xs) (G : Below w.heap.size w w1) : N d e w1 base ok v xs := YY h (fun k _ X => G.block k X)
theorem eC (h : N d e w base ok v xs) (o : Obj) : N d e (w.alloc o) base ok v xs := Y3 h (I6 (Below.refl _ _) o)
theorem eB (h : N d e w base ok v xs) : N d e w.drew base ok v xs := Y3 h (iZ (Below.refl _ _))
theorem gC (h : N d e w base ok v xs) (m : Nat) : N d e (w.drewN m) base ok v xs := Y3 h (q5 (Below.refl _ _) m)
theorem H6 (h : N d e w base ok v xs) {p : Addr} (b4 : ∀ k, ok k → k ≠ p.block) (u : Value) : N d e (w.setCell p u) base ok v xs := YY h (fun k ho _ => Below.heap_setCell w p u k (b4 k ho))
theorem o8 (h : N d e W base ok v xs) (G7 : ∀ k, u.ownBlock = some k → W.heap.size ≤ k) (G : Below W.heap.size W w1) : N d e w1 base (fun k => ok k ∧ some k ≠ u.ownBlock) v xs :=
 J6 (Y3 (Dm h) G) (fun k X => ⟨X.1, fun he => by have := G7 k he.symm; have := X.2; omega⟩)
theorem CG (h : N d e w base ok v xs) (a : Nat) (ha : w.heap.size ≤ a) : N d e w base (fun k => ok k ∧ k ≠ a) v xs := J6 (Dm h) (fun k X => ⟨X.1, by have := X.2; omega⟩)
theorem cn0 (h : N d e W base (fun k => ok k ∧ some k ≠ u.ownBlock) v xs) {u1 : Value} (hg : W.grownBy w1 u.ownBlock) (O1 : u1.ownBlock = u.ownBlock ∨ ∃ b, u1.ownBlock = some b ∧ W.heap.size ≤ b) : N d e w1 base (fun k => ok k ∧ some k ≠ u1.ownBlock) v xs := by
 refine J6 (YY (Dm h) (fun k X l4 => hg.block k l4 X.1.2)) (fun k X => ⟨X.1.1, ?_⟩)
 rcases O1 with O1 | ⟨b, G, hle⟩
 ·rw [O1]; exact X.1.2
 ·rw [G]
  intro he
  injection he with he
  have := X.2
  omega
theorem VD (h : N d e w base ok v xs) : ∃ A c, v = .slice A xs.length c := by
 obtain ⟨_, rows, hl, hR, _⟩ := h
 obtain ⟨A, c, he⟩ := Q9 hR
 exact ⟨A, c, by rw [he, hl]⟩
theorem iA {n c : Nat} (h : N d e w base ok (.slice A n c) xs) : n = xs.length ∧ n ≤ c ∧ d.C w A xs.length xs := by
 obtain ⟨_, rows, hl, hR, hf⟩ := h
 obtain ⟨hn, hc, hC⟩ := n_ hR
 refine ⟨by omega, hc, ?_⟩
 rw [hl] at hC
 refine ⟨rfl, hC.2.1, fun hp => ?_⟩
 obtain ⟨ad, he, EG⟩ := hC.2.2 hp
 refine ⟨ad, he, fun j p hj => ?_⟩
 have RP : j < rows.length := by have := (List.getElem?_eq_some_iff.1 hj).1; omega
 obtain ⟨c', gQ, hK, QP⟩ := EG j _ (List.getElem?_eq_getElem RP)
 have X := gV (hf j p _ hj (List.getElem?_eq_getElem RP))
 refine ⟨c', gQ, ?_, QP⟩
 rw [show c' = rows[j] from hK.1]
 exact X
end
end Kd
end Go.Proofs.YtdmnknhlibaaoaaW.PrintWords
namespace Go.Proofs.YtdmnknhlibaaoaaW.PrintWords
open Go.RowKit
namespace Kd
section
variable {α : Type} {d : Kd α} {e base n cap g : Nat} {ok ok' okp : Nat → Prop} {w w1 W : World} {v v1 : Value} {xs ys : List α}
theorem cm5 {rows news : List (List Value)} (h0 : ∀ k, v.ownBlock = some k → ok k) (hl : rows.length = xs.length) (hf : ∀ (j : Nat) (x : α) (c : List Value), xs[j]? = some x → rows[j]? = some c → FK d W (fun k => ok k ∧ some k ≠ v.ownBlock) x c)
 (RC : news.length = ys.length) (Fr : ∀ (j : Nat) (x : α) (c : List Value), ys[j]? = some x → news[j]? = some c → FK d W okp x c) (YG : ∀ k, okp k → ok k ∧ some k ≠ v.ownBlock) (MC : ∀ k, W.heap.size ≤ k → ok k)
 (hR : (raw d.sz).R e w1 base (fun _ => True) v1 (rows ++ news)) (hg : W.grownBy w1 v.ownBlock) (O1 : v1.ownBlock = v.ownBlock ∨ ∃ b, v1.ownBlock = some b ∧ W.heap.size ≤ b) : N d e w1 base ok v1 (xs ++ ys) := by
 have J8 : ∀ k, some k ≠ v.ownBlock → k < W.heap.size → some k ≠ v1.ownBlock := by
  intro k X l4
  rcases O1 with O1 | ⟨b, G, hle⟩
  ·rw [O1]; exact X
  ·rw [G]
   intro he
   injection he with he
   omega
 have step : ∀ {x : α} {c : List Value} {o : Nat → Prop}, FK d W o x c → (∀ k, o k → ok k ∧ some k ≠ v.ownBlock) → FK d w1 (fun k => ok k ∧ some k ≠ v1.ownBlock) x c := by
  intro x c o hq ho
  exact gZ (Al (Zk hq) (fun k X l4 => hg.block k l4 (ho k X.1).2)) (fun k X => ⟨(ho k X.1).1, J8 k (ho k X.1).2 X.2⟩)
 refine ⟨fun k X => ?_, rows ++ news, by rw [List.length_append, List.length_append, hl, RC], am5 hR, fun j x c hx hc => ?_⟩
 ·rcases O1 with O1 | ⟨b, G, hle⟩
  ·exact h0 k (O1 ▸ X)
  ·rw [G] at X
   injection X with X
   exact MC k (by omega)
 ·rcases Nat.lt_or_ge j xs.length with l4 | TO
  ·rw [List.getElem?_append_left l4] at hx
   rw [List.getElem?_append_left (by omega)] at hc
   exact step (hf j x c hx hc) (fun _ X => X)
  ·rw [List.getElem?_append_right TO] at hx
   rw [List.getElem?_append_right (by omega), hl] at hc
   exact step (Fr _ x c hx hc) YG
theorem cl9 {x : α} {c : List Value} (h : FK d W ok x c) : c = c ∧ c.length = d.sz ∧ ∀ u ∈ c, u.oneCell' = true := ⟨rfl, d.K_len (gV h), d.K_one (gV h)⟩
theorem cw3 {rows : List (List Value)} (hR : (raw d.sz).R e w1 base (fun k => k = W.heap.size) v1 rows) (hg : W.grownBy w1 none) (O1 : ∃ b, v1.ownBlock = some b ∧ W.heap.size ≤ b) (hl : rows.length = xs.length) (hf : ∀ (j : Nat) (x : α) (c : List Value), xs[j]? = some x → rows[j]? = some c → FK d W okp x c)
 (b4 : ∀ k, okp k → ok k) (MC : ok W.heap.size) : N d e w1 base ok v1 xs := by
 obtain ⟨b, G, hle⟩ := O1
 refine ⟨fun k X => by rw [hR.1 k X]; exact MC, rows, hl, am5 hR, fun j x c hx hc => ?_⟩
 refine gZ (Al (Zk (hf j x c hx hc)) (fun k X l4 => hg.block k l4 (by simp))) (fun k X => ⟨b4 k X.1, fun he => ?_⟩)
 rw [G] at he
 injection he with he
 have := X.2
 omega
end
section
variable {P : Program} {ops : Array Oper} {rest : List Oper} {o : Oper} {a : Act} {Q : Exit → Act → World → Prop} {Kc : Act → World → Prop} {α : Type}
theorem cw1 (d : Kd α) {w0 W : World} (base : Nat) (hw : Region.wanted o (yielded ops a.tmps) = true) (s x : Operand) (t e : TypeId) (z : Value) (bytes : Nat)
 (ho : o.op = .call { callee := .builtin .append, args := #[s, x], argTypes := #[t, t] })
 (ht : P.underlying t = some (.slice e)) (LC : (P.info? e).map (fun i => (i.zero, i.size, i.bytes)) = some (some z, d.sz, bytes)) (hz : z.cells.size = d.sz) (pE : 0 < d.sz) (IA : 0 < bytes)
 (v : Value) (xs : List α) (p : α) (cs : List Value) (ok okp : Nat → Prop) (hs : a.eval s = v) (hx : a.eval x = .slice (some ⟨W.heap.size, 0, none⟩) 1 1) (hp : FK d W okp p cs) (YG : ∀ k, okp k → ok k ∧ some k ≠ v.ownBlock) (MC : ∀ k, W.heap.size ≤ k → ok k)
 (HO : N d e W base ok v xs) (I : Below base w0 W) (G7 : base ≤ W.heap.size) (hl : (xs.length + 1) * bytes ≤ 140737488355328)
 (h : ∀ v1 w1, N d e w1 base ok v1 (xs ++ [p]) → Below base w0 w1 → W.grownBy w1 v.ownBlock → (v1.ownBlock = v.ownBlock ∨ ∃ b, v1.ownBlock = some b ∧ W.heap.size ≤ b) → Kc (a.put o.dst v1) w1) :
 if Region.wanted o (yielded ops a.tmps) = true then Oper.wp P o a (W.alloc (.cells cs.toArray e)) Kc Q else Kc (a.put o.dst undef) (W.alloc (.cells cs.toArray e)) := by
 obtain ⟨h0, rows, Rx, hR, hf⟩ := HO
 refine af1 (raw d.sz) base hw s x t e z bytes ho ht LC hz pE IA v rows cs cs (fun _ => True) (fun _ => False) hs hx (cl9 hp) (fun _ X => X.elim) (fun _ _ => trivial) (cy0 hR) I G7 (by rw [Rx]; exact hl) ?_
 intro v1 w1 hr G hg O1
 exact h v1 w1 (cm5 h0 Rx hf (ys := [p]) (news := [cs]) rfl (fun j y c hy hc => by
  rcases j with _ | j
  ·simp only [List.getElem?_cons_zero, Option.some.injEq] at hy hc
   rw [← hy, ← hc]; exact hp
  ·simp at hy) YG MC hr hg O1) G hg O1
theorem OZ (d : Kd α) {w0 W : World} (base e : Nat) (zC : o.guard = none) {N' : Tmp} (bU : o.dst = some N') {xs : List α} {inner : List Value} {ok okp : Nat → Prop}
 (VA : (execOp a.eval o).run P W = .ok (.value (.slice (some ⟨W.heap.size, 0, none⟩) xs.length xs.length)) (W.alloc (.cells inner.toArray e)))
 (XL : J2 (FK d W okp) d.sz xs inner) (b4 : ∀ k, okp k → ok k) (MC : ok W.heap.size) (I : Below base w0 W) (G7 : base ≤ W.heap.size) (hm : xs.length ≤ 9223372036854775807)
 (h : ∀ v1 w1, N d e w1 base ok v1 xs → Below base w0 w1 → W.grownBy w1 none → (∃ b, v1.ownBlock = some b ∧ W.heap.size ≤ b) → wpList P ops Q rest (a.put o.dst v1) w1) :
 wpList P ops Q (o :: rest) a W := by
 refine PF (raw d.sz) base e zC bU (xs := chunks d.sz xs.length inner) (inner := inner) (ok := fun k => k = W.heap.size) (okp := fun _ => False) (by rw [jN]; exact VA) (ar0 XL (fun y c X => ⟨d.K_len (gV X), d.K_one (gV X)⟩)) (fun _ X => X.elim) rfl I G7 (by rw [jN]; exact hm) ?_
 intro v1 w1 hr G hg O1
 exact h v1 w1 (cw3 hr hg O1 (jN _ _ _) (fun j y c hy hc => by rw [Kn hc]; exact XL.2 j y hy) b4 MC) G hg O1
end
end Kd
end Go.Proofs.YtdmnknhlibaaoaaW.PrintWords
namespace Go.Proofs.YtdmnknhlibaaoaaW.PrintMore
open Go.RowKit Go.Proofs.YtdmnknhlibaaoaaW.PrintWords
namespace Kd
open Go.Proofs.YtdmnknhlibaaoaaW.PrintWords.Kd
end Kd
namespace Kd
open Go.Proofs.YtdmnknhlibaaoaaW.PrintWords.Kd
section
variable {α : Type} {d : Kd α} {e base g N : Nat} {ok : Nat → Prop} {W w1 : World} {u v : Value} {xs : List α}
end
end Kd
theorem cH (k k' : IntKind) (x y : Int) : Builtin.max2 (.int k x) (.int k' y) = pure (.int k (if x < y then y else x)) := by simp only [Builtin.max2, gt_iff_lt]
theorem bH (k k' : IntKind) (x y : Int) : Builtin.min2 (.int k x) (.int k' y) = pure (.int k (if y < x then y else x)) := by simp only [Builtin.min2]
theorem eH (bJ : Array TypeId) (ty : TypeId) (a b : Value) : Builtin.max_ bJ ty #[a, b] = (Builtin.max2 a b >>= fun s => pure s) := by simp only [Builtin.max_, List.foldlM_cons, List.foldlM_nil]
theorem jH (bJ : Array TypeId) (ty : TypeId) (a b : Value) : Builtin.min_ bJ ty #[a, b] = (Builtin.min2 a b >>= fun s => pure s) := by simp only [Builtin.min_, List.foldlM_cons, List.foldlM_nil]
theorem fH (bJ : Array TypeId) (ty : TypeId) (a b c : Value) : Builtin.max_ bJ ty #[a, b, c] = (Builtin.max2 a b >>= fun s => Builtin.max2 s c >>= fun s => pure s) := by simp only [Builtin.max_, List.foldlM_cons, List.foldlM_nil]
theorem nH (bJ : Array TypeId) (ty : TypeId) (a b c : Value) : Builtin.min_ bJ ty #[a, b, c] = (Builtin.min2 a b >>= fun s => Builtin.min2 s c >>= fun s => pure s) := by simp only [Builtin.min_, List.foldlM_cons, List.foldlM_nil]
theorem qH (bJ : Array TypeId) (ty : TypeId) (a b c d : Value) : Builtin.max_ bJ ty #[a, b, c, d] = (Builtin.max2 a b >>= fun s => Builtin.max2 s c >>= fun s => Builtin.max2 s d >>= fun s => pure s) := by simp only [Builtin.max_, List.foldlM_cons, List.foldlM_nil]
theorem oH (bJ : Array TypeId) (ty : TypeId) (a b c d : Value) : Builtin.min_ bJ ty #[a, b, c, d] = (Builtin.min2 a b >>= fun s => Builtin.min2 s c >>= fun s => Builtin.min2 s d >>= fun s => pure s) := by simp only [Builtin.min_, List.foldlM_cons, List.foldlM_nil]
end Go.Proofs.YtdmnknhlibaaoaaW.PrintMore
namespace Go.Proofs.YtdmnknhlibaaoaaW.PrintWords
open Go.RowKit
section
variable {P : Program} {ops : Array Oper} {rest : List Oper} {o : Oper} {a : Act} {Q : Exit → Act → World → Prop} {W : World}
theorem H2 {f : FuncId} {as : Array Operand} {ts : Array TypeId} (_ho : o.op = .call { callee := .value (.func f), args := as, argTypes := ts }) (h : wpList P ops Q (o :: rest) a W) : wpList P ops Q (o :: rest) a W := h
theorem O_ {b : Builtin} {xs : Array Operand} {ts : Array TypeId} (_ho : o.op = .call { callee := .builtin b, args := xs, argTypes := ts }) (h : wpList P ops Q (o :: rest) a W) : wpList P ops Q (o :: rest) a W := h
end
def mn (a b : Int) : Int := if b < a then b else a
def shr (k : IntKind) (x y : Int) : Int := x / 2 ^ min y.toNat k.bits
theorem cp2 {k : IntKind} {x y j : Int} (h : shr k x y = j) (hy : y ≤ k.bits) : x / 2 ^ y.toNat = j := by rw [← h]; unfold shr; rw [Nat.min_eq_left (by omega)]
theorem NE (w : World) (n : Nat) : w.drewN n = w.drewN n := rfl
namespace Kd
section
variable {α : Type} {d : Kd α} {e base : Nat} {ok : Nat → Prop} {W w1 : World} {v : Value} {xs : List α}
end
section
variable {α : Type} {d : Kd α} {e base g n cap : Nat} {ok pT okp : Nat → Prop} {W : World} {xs : List α} {i : Int} {c : List Value}
end
section
variable {α : Type} {d : Kd α} {e base b b' g N : Nat} {ok ok1 : Nat → Prop} {W W2 w1 : World} {u v : Value} {xs ys : List α} {S : Nat → Prop}
end
end Kd
end Go.Proofs.YtdmnknhlibaaoaaW.PrintWords
namespace Go.Proofs.YtdmnknhlibaaoaaW.PrintWords
open Go.RowKit
namespace Kd
def V {α : Type} (d : Kd α) (_e : Nat) (W : World) (ez1 : Nat) (ok : Nat → Prop) (v : Value) (xs : List α) : Prop := ∃ A c, v = .slice A xs.length c ∧ xs.length ≤ c ∧ F d W ok A xs.length xs
section
variable {α β : Type} {d : Kd α} {e base SD n m c g N' lo hi : Nat} {ok ok' S : Nat → Prop} {w W w1 : World} {A : Option Addr} {ad : Addr} {u v v1 : Value} {xs : List α}
theorem co6 (d : Kd α) (e : Nat) (W : World) (base : Nat) (ok : Nat → Prop) : V d e W base ok (.slice none 0 0) [] := ⟨none, 0, rfl, Nat.le_refl _, aq8 d W ok⟩
theorem ae8 (h : N d e W base (fun k => ok k ∧ some k ≠ v.ownBlock) u xs) (hg : W.grownBy w1 v.ownBlock) (O1 : v1.ownBlock = v.ownBlock ∨ ∃ b, v1.ownBlock = some b ∧ W.heap.size ≤ b) : N d e w1 base (fun k => ok k ∧ some k ≠ v1.ownBlock) u xs := cn0 h hg O1
theorem DR {l : List α} (hl : l.length ≤ c) (hf : F d W ok A l.length l) : FK (Kd.slice e d) W ok l [.slice A l.length c] := fun W' hW => ⟨A, c, rfl, hl, hf W' hW⟩
theorem cw5 {M : Nat → Prop} (h : d.R e w1 W.heap.size ok v xs) (hle : w.heap.size ≤ W.heap.size) (hM : ∀ k, w.heap.size ≤ k → M k) : d.R e w1 W.heap.size (fun k => M k ∧ ok k) v xs := Y5 (aI h) (fun k X => ⟨hM k (Nat.le_trans hle X.2.1), X.1⟩)
end
end Kd
end Go.Proofs.YtdmnknhlibaaoaaW.PrintWords
namespace Go.Proofs.YtdmnknhlibaaoaaW.PrintLast
section
variable {P : Program} {ops : Array Oper} {Q : Exit → Act → World → Prop} {md : Region.Mode} {S : World → Prop} {ds : List Nat} {T : Bool × List (List Nat × List Nat)}
end
end Go.Proofs.YtdmnknhlibaaoaaW.PrintLast
namespace Go.Proofs.YtdmnknhlibaaoaaW.PrintWords
open Go.RowKit
namespace Kd
section
variable {α : Type} {d : Kd α} {W : World} {g n : Nat} {S ok : Nat → Prop} {A : Option Addr} {ad : Addr} {xs : List α}
end
end Kd
end Go.Proofs.YtdmnknhlibaaoaaW.PrintWords
namespace Go.Proofs.YtdmnknhlibaaoaaW.PrintWords
open Go.RowKit
section
variable {w w' u : World} {m B g : Nat} {o : Obj} {row : Option Nat} {S : Nat → Prop} {a : Addr} {v : Value}
end
namespace Kd
section
variable {α : Type} {d : Kd α} {e base n m : Nat} {ok : Nat → Prop} {w w' : World} {v : Value} {A : Option Addr} {xs : List α}
end
end Kd
end Go.Proofs.YtdmnknhlibaaoaaW.PrintWords
namespace Go.Proofs.YtdmnknhlibaaoaaW.PrintWords
open Go.RowKit
section
variable {P : Program} {d : Nat} {xs ys : Array Value} {f : Field} {fs : List Field} {a b : Value} {r s : Bool} {w : World}
theorem da2 (hn : (f.name == "_") = false) (ha : (part f.type xs f.offset).run P w = .ok a w) (G : (part f.type ys f.offset).run P w = .ok b w) (he : (Op.equalIn d f.type a b).run P w = .ok r w) : (Op.eqFields d xs ys [f]).run P w = .ok r w := by
 have Uf : f.name ≠ "_" := by simpa using hn
 simp only [Op.eqFields, if_pos Uf, Sem.run_bind, ha, G, he, Result.andThen_ok]
 cases r <;> simp
theorem sV (hn : (f.name == "_") = false) (ha : (part f.type xs f.offset).run P w = .ok a w) (G : (part f.type ys f.offset).run P w = .ok b w) (he : (Op.equalIn d f.type a b).run P w = .ok r w) (hr : (Op.eqFields d xs ys fs).run P w = .ok s w) : (Op.eqFields d xs ys (f :: fs)).run P w = .ok (r && s) w := by
 have Uf : f.name ≠ "_" := by simpa using hn
 rw [Op.eqFields]
 simp only [if_pos Uf, Sem.run_bind, ha, G, he, Result.andThen_ok]
 cases r
 ·simp
 ·simpa using hr
theorem cm8 {t : TypeId} {fs : Array Field} (hu : P.underlying t = some (.struct fs)) (hp : P.stoodInHeld t = false) (h : (Op.eqFields d xs ys fs.toList).run P w = .ok r w) : (Op.equalIn (d + 1) t (.agg xs) (.agg ys)).run P w = .ok r w := by
 have hf : P.fieldsOf t = fs := by simp [Program.fieldsOf, hu]
 rw [run_equalIn_struct (P := P) w d t xs ys (by rw [hf]; exact hu) hp, hf]
 exact h
end
end Go.Proofs.YtdmnknhlibaaoaaW.PrintWords
namespace Go.Proofs.YtdmnknhlibaaoaaW.PrintWords
theorem J2.one {α : Type} {R : α → List Value → Prop} {ps : List α} {cs : List Value} {p : α} {v : Value} (hp : R p [v]) (h : J2 R 1 ps cs) : J2 R 1 (p :: ps) (v :: cs) := by
 refine ⟨by simp [h.1], fun j q hq => ?_⟩
 cases j with
 | zero =>
  simp only [List.getElem?_cons_zero, Option.some.injEq] at hq
  subst hq
  simpa using hp
 | succ j =>
  simp only [List.getElem?_cons_succ] at hq
  have h1 := h.2 j q hq
  simpa [Nat.mul_one] using h1
theorem J2.front {α : Type} {R : α → List Value → Prop} {size : Nat} {ps : List α} {cs c all : List Value} {p : α} (hp : R p c) (hc : c.length = size) (h : J2 R size ps cs) (ha : c ++ cs = all) : J2 R size (p :: ps) all := by
 subst ha
 refine ⟨by rw [List.length_append, hc, h.1, List.length_cons, Nat.succ_mul, Nat.add_comm], fun j q hq => ?_⟩
 cases j with
 | zero =>
  simp only [List.getElem?_cons_zero, Option.some.injEq] at hq
  subst hq
  rw [Nat.zero_mul, List.drop_zero, List.take_append_of_le_length (by omega), List.take_of_length_le (by omega)]
  exact hp
 | succ j =>
  simp only [List.getElem?_cons_succ] at hq
  have h1 := h.2 j q hq
  rw [Nat.succ_mul, List.drop_append, List.drop_of_length_le (by rw [hc]; exact Nat.le_add_left _ _), List.nil_append, hc, Nat.add_sub_cancel]
  exact h1
theorem J2.c2 {α : Type} {R : α → List Value → Prop} {ps : List α} {cs : List Value} {p : α} {va vb : Value} (hp : R p [va, vb]) (h : J2 R 2 ps cs) : J2 R 2 (p :: ps) (va :: vb :: cs) := J2.front hp rfl h rfl
theorem J2.c3 {α : Type} {R : α → List Value → Prop} {ps : List α} {cs : List Value} {p : α} {va vb vc : Value} (hp : R p [va, vb, vc]) (h : J2 R 3 ps cs) : J2 R 3 (p :: ps) (va :: vb :: vc :: cs) := J2.front hp rfl h rfl
theorem J2.c4 {α : Type} {R : α → List Value → Prop} {ps : List α} {cs : List Value} {p : α} {va vb vc vd : Value} (hp : R p [va, vb, vc, vd]) (h : J2 R 4 ps cs) : J2 R 4 (p :: ps) (va :: vb :: vc :: vd :: cs) := J2.front hp rfl h rfl
theorem J2.c5 {α : Type} {R : α → List Value → Prop} {ps : List α} {cs : List Value} {p : α} {va vb vc vd ve : Value} (hp : R p [va, vb, vc, vd, ve]) (h : J2 R 5 ps cs) : J2 R 5 (p :: ps) (va :: vb :: vc :: vd :: ve :: cs) := J2.front hp rfl h rfl
theorem J2.c6 {α : Type} {R : α → List Value → Prop} {ps : List α} {cs : List Value} {p : α} {va vb vc vd ve vf : Value} (hp : R p [va, vb, vc, vd, ve, vf]) (h : J2 R 6 ps cs) : J2 R 6 (p :: ps) (va :: vb :: vc :: vd :: ve :: vf :: cs) := J2.front hp rfl h rfl
theorem J2.c7 {α : Type} {R : α → List Value → Prop} {ps : List α} {cs : List Value} {p : α} {va vb vc vd ve vf vg : Value} (hp : R p [va, vb, vc, vd, ve, vf, vg]) (h : J2 R 7 ps cs) : J2 R 7 (p :: ps) (va :: vb :: vc :: vd :: ve :: vf :: vg :: cs) := J2.front hp rfl h rfl
theorem J2.c8 {α : Type} {R : α → List Value → Prop} {ps : List α} {cs : List Value} {p : α} {va vb vc vd ve vf vg vh : Value} (hp : R p [va, vb, vc, vd, ve, vf, vg, vh]) (h : J2 R 8 ps cs) : J2 R 8 (p :: ps) (va :: vb :: vc :: vd :: ve :: vf :: vg :: vh :: cs) := J2.front hp rfl h rfl
theorem J2.c9 {α : Type} {R : α → List Value → Prop} {ps : List α} {cs : List Value} {p : α} {va vb vc vd ve vf vg vh vi : Value} (hp : R p [va, vb, vc, vd, ve, vf, vg, vh, vi]) (h : J2 R 9 ps cs) : J2 R 9 (p :: ps) (va :: vb :: vc :: vd :: ve :: vf :: vg :: vh :: vi :: cs) := J2.front hp rfl h rfl
theorem J2.c10 {α : Type} {R : α → List Value → Prop} {ps : List α} {cs : List Value} {p : α} {va vb vc vd ve vf vg vh vi vj : Value} (hp : R p [va, vb, vc, vd, ve, vf, vg, vh, vi, vj]) (h : J2 R 10 ps cs) : J2 R 10 (p :: ps) (va :: vb :: vc :: vd :: ve :: vf :: vg :: vh :: vi :: vj :: cs) := J2.front hp rfl h rfl
end Go.Proofs.YtdmnknhlibaaoaaW.PrintWords
namespace Go.Proofs.YtdmnknhlibaaoaaW.PrintLast
section
variable {P : Program} {ops : Array Oper} {Q : Exit → Act → World → Prop} {md : Region.Mode} {T : Bool × List (List Nat × List Nat)} {B : List Nat} {O : List Nat} {b : Nat → Bool} {i j n : Nat}
end
end Go.Proofs.YtdmnknhlibaaoaaW.PrintLast
namespace Go.Proofs.YtdmnknhlibaaoaaW.PrintWords
open Go.RowKit
theorem Kd.R_slice1 {α : Type} {d : Kd α} {e base : Nat} {ok : Nat → Prop} {w : World} {v : Value} {xs : List α} (h : d.R e w base ok v xs) (hn : 0 < xs.length) : ∃ (ad : Addr) (c : Nat), v = .slice (some ad) xs.length c := by
 obtain ⟨A, c, rfl⟩ := Kd.Q9 h
 have h2 := (Kd.n_ h).2.2
 obtain ⟨ad, he, _⟩ := h2.2.2 hn
 subst he
 exact ⟨ad, c, rfl⟩
end Go.Proofs.YtdmnknhlibaaoaaW.PrintWords
namespace Go.Proofs.YtdmnknhlibaaoaaW.PrintLast
section
variable {ops : Array Oper} {a : Act} {o og : Oper} {g : Nat} {t : Tmp} {u : Bool}
end
end Go.Proofs.YtdmnknhlibaaoaaW.PrintLast
namespace Go.Proofs.YtdmnknhlibaaoaaW.PrintWords
open Go.RowKit
section
variable {P : Program} {ops : Array Oper} {rest : List Oper} {o : Oper} {a : Act} {Q : Exit → Act → World → Prop} {W : World}
theorem eF (hw : Region.wanted o (yielded ops a.tmps) = true) (h : wpList P ops Q ({ o with guard := none } :: rest) a W) : wpList P ops Q (o :: rest) a W := by
 have h1 : Region.wanted { o with guard := none } (yielded ops a.tmps) = true := rfl
 unfold wpList at h ⊢
 rw [if_pos h1] at h
 rw [if_pos hw]
 exact h
end
end Go.Proofs.YtdmnknhlibaaoaaW.PrintWords
