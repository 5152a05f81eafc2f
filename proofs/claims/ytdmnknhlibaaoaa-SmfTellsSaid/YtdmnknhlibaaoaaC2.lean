/- Functions and contracts printed by a program of this session (wip/tools), and texts by hand: Print, Parse, and the plain answers (part 2). -/
import Derived.Lib.SlBytesConst
import Derived.Laws.BitsLemmas
import Derived.Lib.ConvBytes
import Derived.Defers
import Derived.Recover
import Derived.Laws.Cover3
import Derived.Test.YtdmnknhlibaaoaaCW
import Derived.Test.YtdmnknhlibaaoaaC1
namespace Go.Proofs.Ytdmnknhlibaaoaa.M
open Go.RowKit Go.Proofs.YtdmnknhlibaaoaaW.PrintWords Go.Proofs.YtdmnknhlibaaoaaW.PrintLast Go.Proofs.YtdmnknhlibaaoaaW.PrintMore
set_option linter.unusedVariables false
set_option linter.unusedSimpArgs false
theorem OM (b c : Int) (gc : Nat) (w : World) (h : w.cell? ⟨gc, 0, none⟩ = some (.int .u8 c)) : Calls Try.prog 49 (#[.int .u8 b] ++ #[.pointer (some ⟨gc, 0, none⟩)]) w fun e w' => e = .returned (.bool (b == c)) ∧ w' = w := by
 show Calls Try.prog 49 #[.int .u8 b, .pointer (some ⟨gc, 0, none⟩)] w _
 go_enter Try.func49, Try.ntmps49
 go_wp2
 go_ret
 exact ⟨rfl, rfl⟩
theorem RF (b : Int) (w : World) : Calls Try.prog 50 (#[.int .u8 b] ++ #[]) w fun e w' => e = .returned (.bool (b == 0)) ∧ w' = w := by
 show Calls Try.prog 50 #[.int .u8 b] w _
 go_enter Try.func50, Try.ntmps50
 go_wp2
 go_ret
 exact ⟨rfl, rfl⟩
theorem aH (b : Int) (w : World) : Calls Try.prog 51 (#[.int .u8 b] ++ #[]) w fun e w' => e = .returned (.bool (decide (b ≤ 1))) ∧ w' = w := by
 show Calls Try.prog 51 #[.int .u8 b] w _
 go_enter Try.func51, Try.ntmps51
 go_wp2
 go_ret
 exact ⟨rfl, rfl⟩
theorem lP (b : Int) (w : World) : Calls Try.prog 53 (#[.int .u8 b] ++ #[]) w fun e w' => e = .returned (.bool (decide (b < 128))) ∧ w' = w := by
 show Calls Try.prog 53 #[.int .u8 b] w _
 go_enter Try.func53, Try.ntmps53
 go_wp2
 go_ret
 exact ⟨rfl, rfl⟩
def ZG (b fm : Int) : Bool := decide (b = 1) || (decide (fm = 1) && decide (b > 0) && decide (b ≤ 16))
theorem AC (b fm : Int) (gf fb : Nat) (w : World) (h : w.cell? ⟨gf, 0, none⟩ = some (.pointer (some ⟨fb, 0, none⟩))) (h2 : w.cell? ⟨fb, 0, none⟩ = some (.int .i64 fm)) :
 Calls Try.prog 52 (#[.int .u8 b] ++ #[.pointer (some ⟨gf, 0, none⟩)]) w fun e w' => e = .returned (.bool (ZG b fm)) ∧ w' = w := by
 show Calls Try.prog 52 #[.int .u8 b, .pointer (some ⟨gf, 0, none⟩)] w _
 unfold ZG
 by_cases k1 : b = 1
 ·have e1 : (b == 1) = true := beq_iff_eq.mpr k1
  rw [decide_eq_true k1, Bool.true_or]
  go_enter Try.func52, Try.ntmps52
  go_wp2
  go_ret
  exact ⟨rfl, rfl⟩
 ·have e1 : (b == 1) = false := beq_eq_false_iff_ne.mpr k1
  rw [decide_eq_false k1, Bool.false_or]
  by_cases k2 : fm = 1
  ·have e2 : (fm == 1) = true := beq_iff_eq.mpr k2
   rw [decide_eq_true k2, Bool.true_and]
   by_cases k3 : b > 0
   ·have e3 : decide (b > 0) = true := decide_eq_true k3
    rw [e3, Bool.true_and]
    go_enter Try.func52, Try.ntmps52
    go_wp2
    go_ret
    exact ⟨rfl, rfl⟩
   ·have e3 : decide (b > 0) = false := decide_eq_false k3
    rw [e3, Bool.false_and]
    go_enter Try.func52, Try.ntmps52
    go_wp2
    go_ret
    exact ⟨rfl, rfl⟩
  ·have e2 : (fm == 1) = false := beq_eq_false_iff_ne.mpr k2
   rw [decide_eq_false k2, Bool.false_and, Bool.false_and]
   go_enter Try.func52, Try.ntmps52
   go_wp2
   go_ret
   exact ⟨rfl, rfl⟩
theorem iD (b hi : Int) (gh : Nat) (w : World) (h : w.cell? ⟨gh, 0, none⟩ = some (.int .i64 hi)) :
 Calls Try.prog 54 (#[.int .u8 b] ++ #[.pointer (some ⟨gh, 0, none⟩)]) w fun e w' => e = .returned (.bool (decide (b > 0) || decide (hi > 0))) ∧ w' = w := by
 show Calls Try.prog 54 #[.int .u8 b, .pointer (some ⟨gh, 0, none⟩)] w _
 by_cases k1 : b > 0
 ·have e1 : decide (b > 0) = true := decide_eq_true k1
  rw [e1, Bool.true_or]
  go_enter Try.func54, Try.ntmps54
  go_wp2
  go_ret
  exact ⟨rfl, rfl⟩
 ·have e1 : decide (b > 0) = false := decide_eq_false k1
  rw [e1, Bool.false_or]
  go_enter Try.func54, Try.ntmps54
  go_wp2
  go_ret
  exact ⟨rfl, rfl⟩
def WC (s : ByteArray) (i : Nat) : Bool := match i with
 | 0 => bt s 0 == 77
 | 1 => bt s 1 == 84
 | 2 => bt s 2 == 104
 | 3 => bt s 3 == 100
 | 4 => bt s 4 == 0
 | 5 => bt s 5 == 0
 | 6 => bt s 6 == 0
 | 7 => bt s 7 == 6
 | 8 => bt s 8 == 0
 | 9 => decide (bt s 9 ≤ 1)
 | 10 => bt s 10 == 0
 | 11 => ZG (bt s 11) (bt s 9)
 | 12 => decide (bt s 12 < 128)
 | _ => decide (bt s 13 > 0) || decide (bt s 12 > 0)
def kC (s : ByteArray) : Nat → Nat → Option (Int × Int)
 | 0, _ => none
 | n + 1, i => if (i : Int) < s.size then (if WC s i = true then kC s n (i + 1) else some ((i : Int), 160)) else some ((s.size : Int), 152)
end Go.Proofs.Ytdmnknhlibaaoaa.M
namespace Go.Proofs.Ytdmnknhlibaaoaa.M
open Go.RowKit Go.Proofs.YtdmnknhlibaaoaaW.PrintWords Go.Proofs.YtdmnknhlibaaoaaW.PrintLast Go.Proofs.YtdmnknhlibaaoaaW.PrintMore
set_option linter.unusedVariables false
set_option linter.unusedSimpArgs false
section
variable {s : ByteArray} {p : Int} {q : Bool} {g : Nat} {w0 w : World} {e : Ending} {w' : World}
theorem V6.yes (h : V6 s p q g w0 w e w') (h1 : p < s.size) (h2 : q = true) : e = .returned (.int .i64 (bt s p)) ∧ W4 w0 w' g s (p + 1) ∧ Below w0.heap.size w0 w' ∧ F1 w w' g none := by
 obtain ⟨a, b, c | c | c⟩ := h
 ·exact absurd h1 c.1
 ·rw [h2] at c; cases c.2.1
 ·exact ⟨c.2.2.1, c.2.2.2, a, b⟩
theorem V6.no (h : V6 s p q g w0 w e w') (h1 : ¬ (p < s.size ∧ q = true)) : e = (if p < s.size then gone p 160 else gone s.size 152) ∧ Below w0.heap.size w0 w' ∧ F1 w w' g none := by
 obtain ⟨a, b, c | c | c⟩ := h
 ·exact ⟨by rw [if_neg c.1]; exact c.2, a, b⟩
 ·exact ⟨by rw [if_pos c.1]; exact c.2.2, a, b⟩
 ·exact absurd ⟨c.1, c.2.1⟩ h1
end
def fB (hi lo : Int) : Int := bits BinOp.or IntKind.i64 (IntKind.i64.wrap (hi * 256)) lo
def Em (s : ByteArray) (g fb : Nat) (w0 w : World) (e : Ending) (w' : World) : Prop := Below w0.heap.size w0 w' ∧ F1 w w' g (some fb) ∧ ∃ x y : Int, w'.heap[fb]? = some (.cells #[.int .i64 x, .int .i64 y, .slice none 0 0] 24 (0, 0)) ∧
 (match kC s 14 0 with
 | some (a, c) => e = gone a c
 | none => e = .returned (.int .i64 (bt s 11)) ∧ W4 w0 w' g s 14 ∧ x = bt s 9 ∧ y = fB (bt s 12) (bt s 13))
def nameAt (k : Nat) : Int := match k with | 0 => 77 | 1 => 84 | 2 => 104 | 3 => 100 | 7 => 6 | _ => 0
theorem cr6 {W : World} {b : Nat} {fz : Nat × Nat} (h : W.heap[b]? = some (.cells #[.int .u8 77, .int .u8 84, .int .u8 104, .int .u8 100, .int .u8 0, .int .u8 0, .int .u8 0, .int .u8 6] 5 fz)) {k : Nat} (X : k < 8) : W.cell? ⟨b, k, none⟩ = some (.int .u8 (nameAt k)) := by
 simp only [World.cell?, h]
 rcases (show k = 0 ∨ k = 1 ∨ k = 2 ∨ k = 3 ∨ k = 4 ∨ k = 5 ∨ k = 6 ∨ k = 7 by omega) with rfl | rfl | rfl | rfl | rfl | rfl | rfl | rfl <;> rfl
theorem am6 (s : ByteArray) {k : Nat} (X : k < 8) : WC s k = (bt s k == nameAt k) := by
 rcases (show k = 0 ∨ k = 1 ∨ k = 2 ∨ k = 3 ∨ k = 4 ∨ k = 5 ∨ k = 6 ∨ k = 7 by omega) with rfl | rfl | rfl | rfl | rfl | rfl | rfl | rfl <;> rfl
structure W7 (s : ByteArray) (g fb : Nat) (w0 w W : World) (i : Nat) (x y : Int) : Prop where
 st : W4 w0 W g s (i : Int)
 fl : W.heap[fb]? = some (.cells #[.int .i64 x, .int .i64 y, .slice none 0 0] 24 (0, 0))
 bx : W.heap[w.heap.size]? = some (.cells #[.pointer (some ⟨fb, 0, none⟩)] 62 (0, 0))
 be : Below w0.heap.size w0 W
 kp : F1 w W g (some fb)
 go : kC s 14 0 = kC s (14 - i) i
 le : (i : Int) ≤ s.size
theorem ap9 {w W : World} {g : Nat} {row : Option Nat} (h : F1 w W g none) : F1 w W g row := ⟨h.1, fun i hi hg _ => h.2 i hi hg (by simp)⟩
theorem W7.byte {s : ByteArray} {g fb : Nat} {w0 w W W' : World} {i : Nat} {x y : Int} (h : W7 s g fb w0 w W i x y) (hi : W4 w0 W' g s ((i : Int) + 1)) (G : Below w0.heap.size w0 W') (X : F1 W W' g none) (I9 : fb ≠ g) (BI : g < w.heap.size) (aV : i < 14) (h1 : (i : Int) < s.size) (h2 : WC s i = true) : W7 s g fb w0 w W' (i + 1) x y := by
 refine ⟨?_, X.blk h.fl I9 (by simp), X.blk h.bx (by omega) (by simp), G, h.kp.trans (ap9 X) (.inl rfl), ?_, by omega⟩
 ·have : ((i + 1 : Nat) : Int) = (i : Int) + 1 := by omega
  rw [this]; exact hi
 ·rw [h.go, show 14 - i = (14 - (i + 1)) + 1 by omega, kC, if_pos h1, if_pos h2]
theorem W7.step {s : ByteArray} {g fb : Nat} {w0 w W W' : World} {i : Nat} {x y : Int} {q : Bool} (j : Nat) (hj : i + 1 = j) (hq : WC s i = q) (h : W7 s g fb w0 w W i x y) (hi : W4 w0 W' g s ((i : Int) + 1)) (G : Below w0.heap.size w0 W') (X : F1 W W' g none) (I9 : fb ≠ g) (BI : g < w.heap.size) (aV : i < 14) (h1 : (i : Int) < s.size) (h2 : q = true) : W7 s g fb w0 w W' j x y := by
 subst hj
 exact h.byte hi G X I9 BI aV h1 (hq.trans h2)
theorem ok8 (s : ByteArray) : WC s 8 = (bt s ((8 : Nat) : Int) == 0) := rfl
theorem Bm (s : ByteArray) : WC s 9 = decide (bt s ((9 : Nat) : Int) ≤ 1) := rfl
theorem ag2 (s : ByteArray) : WC s 10 = (bt s ((10 : Nat) : Int) == 0) := rfl
theorem ar5 (s : ByteArray) : WC s 11 = ZG (bt s ((11 : Nat) : Int)) (bt s 9) := rfl
theorem aq5 (s : ByteArray) : WC s 12 = decide (bt s ((12 : Nat) : Int) < 128) := rfl
theorem ZH (s : ByteArray) : WC s 13 = (decide (bt s ((13 : Nat) : Int) > 0) || decide (bt s 12 > 0)) := rfl
theorem W7.alloc {s : ByteArray} {g fb : Nat} {w0 w W : World} {i : Nat} {x y : Int} (h : W7 s g fb w0 w W i x y) (o : Obj) (hw : w.heap.size ≤ W.heap.size) (Vo : w0.heap.size ≤ W.heap.size) : W7 s g fb w0 w (W.alloc o) i x y :=
 ⟨h.st.alloc o, I1 h.fl _, I1 h.bx _, I6 h.be _, ⟨by simp; omega, fun k X hg hr => by
  have e := h.kp.2 k X hg hr
  rw [← e]
  exact Below.heap_alloc _ _ _ (by omega)⟩, h.go, h.le⟩
theorem W7.far {s : ByteArray} {g fb : Nat} {w0 w W : World} {i : Nat} {x y : Int} (h : W7 s g fb w0 w W i x y) (b j : Nat) (v : Value) (BI : g < w.heap.size) (DS : fb < w.heap.size) (Vo : w0.heap.size ≤ w.heap.size) (G : w.heap.size < b) : W7 s g fb w0 w (W.setCell ⟨b, j, none⟩ v) i x y :=
 ⟨h.st.far (by show g ≠ b; omega) _, P0 h.fl (by show fb ≠ b; omega) _, P0 h.bx (by show w.heap.size ≠ b; omega) _, i4 h.be (by omega), ⟨by simpa [World.setCell] using h.kp.1, fun k X hg hr => by
  rw [← h.kp.2 k X hg hr]
  exact Below.heap_setCell _ _ _ _ (by show k ≠ b; omega)⟩, h.go, h.le⟩
theorem W7.setx {s : ByteArray} {g fb : Nat} {w0 w W : World} {i : Nat} {x y : Int} (h : W7 s g fb w0 w W i x y) (v : Int) (DS : fb < w.heap.size) (I9 : fb ≠ g) (LQ : w0.heap.size ≤ fb) : W7 s g fb w0 w (W.setCell ⟨fb, 0, none⟩ (.int .i64 v)) i v y :=
 ⟨h.st.far (by show g ≠ fb; omega) _, by simpa using DB h.fl 0 (.int .i64 v), P0 h.bx (by show w.heap.size ≠ fb; omega) _, i4 h.be LQ, ⟨by simpa [World.setCell] using h.kp.1, fun k X hg hr => by
  rw [← h.kp.2 k X hg hr]
  exact Below.heap_setCell _ _ _ _ (by show k ≠ fb; intro e; exact hr (by rw [e]))⟩, h.go, h.le⟩
theorem W7.sety {s : ByteArray} {g fb : Nat} {w0 w W : World} {i : Nat} {x y : Int} (h : W7 s g fb w0 w W i x y) (v : Int) (DS : fb < w.heap.size) (I9 : fb ≠ g) (LQ : w0.heap.size ≤ fb) : W7 s g fb w0 w (W.setCell ⟨fb, 1, none⟩ (.int .i64 v)) i x v :=
 ⟨h.st.far (by show g ≠ fb; omega) _, by simpa using DB h.fl 1 (.int .i64 v), P0 h.bx (by show w.heap.size ≠ fb; omega) _, i4 h.be LQ, ⟨by simpa [World.setCell] using h.kp.1, fun k X hg hr => by
  rw [← h.kp.2 k X hg hr]
  exact Below.heap_setCell _ _ _ _ (by show k ≠ fb; intro e; exact hr (by rw [e]))⟩, h.go, h.le⟩
theorem ZD {c : Prop} [Decidable c] {e : Ending} {a b a' b' : Int} (h : e = if c then gone a b else gone a' b') : ∃ x y, e = gone x y := by
 split at h
 ·exact ⟨_, _, h⟩
 ·exact ⟨_, _, h⟩
theorem XD {w1 W : World} (h : w1.heap = W.heap) (a : Addr) : w1.cell? a = W.cell? a := by simp only [World.cell?, h]
theorem W7.endAt {s : ByteArray} {g fb : Nat} {w0 w W W' : World} {i : Nat} {x y : Int} {e : Ending} (h : W7 s g fb w0 w W i x y) (G : Below w0.heap.size w0 W') (X : F1 W W' g none) (I9 : fb ≠ g) (aV : i < 14) (h1 : ¬ ((i : Int) < s.size ∧ WC s i = true)) (he : e = if (i : Int) < s.size then gone i 160 else gone s.size 152) : Em s g fb w0 w e W' := by
 refine ⟨G, h.kp.trans (ap9 X) (.inl rfl), x, y, X.blk h.fl I9 (by simp), ?_⟩
 rw [h.go, show 14 - i = (14 - (i + 1)) + 1 by omega, kC]
 by_cases c : (i : Int) < s.size
 ·rw [if_pos c, if_neg (fun z => h1 ⟨c, z⟩)]
  rw [if_pos c] at he
  exact he
 ·rw [if_neg c]
  rw [if_neg c] at he
  exact he
theorem W7.ends {s : ByteArray} {g fb : Nat} {w0 w W W' : World} {i : Nat} {x y : Int} {q : Bool} {e : Ending} (hq : WC s i = q) (h : W7 s g fb w0 w W i x y) (G : Below w0.heap.size w0 W') (X : F1 W W' g none) (I9 : fb ≠ g) (aV : i < 14) (h1 : ¬ ((i : Int) < s.size ∧ q = true)) (he : e = if (i : Int) < s.size then gone i 160 else gone s.size 152) : Em s g fb w0 w e W' := by
 rw [← hq] at h1
 exact h.endAt G X I9 aV h1 he
set_option maxHeartbeats 8000000 in
set_option maxRecDepth 100000 in
theorem ai8 (g fb : Nat) (s : ByteArray) (w0 w : World) (hI : W4 w0 w g s 0) (hF : w.heap[fb]? = some (.cells #[.int .i64 0, .int .i64 0, .slice none 0 0] 24 (0, 0))) (LQ : w0.heap.size ≤ fb) (hB : Below w0.heap.size w0 w) (hs : s.size ≤ 100000) :
 Calls Try.prog 32 #[.pointer (some ⟨g, 0, none⟩), .pointer (some ⟨fb, 0, none⟩)] w (Em s g fb w0 w) := by
 have Cc : (convert 39 39 (.slice (some ⟨w.heap.size + 1, 0, none⟩) 8 8)).run Try.prog ((w.alloc (.cells #[.pointer (some ⟨fb, 0, none⟩)] 62)).alloc (.cells #[.int .u8 77, .int .u8 84, .int .u8 104, .int .u8 100, .int .u8 0, .int .u8 0, .int .u8 0, .int .u8 6] 5)) =
  .ok (.slice (some ⟨w.heap.size + 1, 0, none⟩) 8 8) ((w.alloc (.cells #[.pointer (some ⟨fb, 0, none⟩)] 62)).alloc (.cells #[.int .u8 77, .int .u8 84, .int .u8 104, .int .u8 100, .int .u8 0, .int .u8 0, .int .u8 0, .int .u8 6] 5 (8, 9))) := by
  have h := Lib.run_convert_bytes_const (P := Try.prog) (w.alloc (.cells #[.pointer (some ⟨fb, 0, none⟩)] 62)) 39 5 #[.int .u8 77, .int .u8 84, .int .u8 104, .int .u8 100, .int .u8 0, .int .u8 0, .int .u8 0, .int .u8 6] 8 8 Try.underlying39 Try.underlying5
  rw [show (w.alloc (.cells #[.pointer (some ⟨fb, 0, none⟩)] 62)).heap.size = w.heap.size + 1 by simp] at h
  exact h
 have Rq : ∀ (fn : Fn) (first cap : Array Value) (w : World), (Instr.makeFunc fn first cap).run Try.prog w = .ok (.func fn first cap) w := fun _ _ _ _ => rfl
 have HI := am hI
 have HF := am hF
 have I := am hB
 clear hI hF hB
 go_enter Try.func32, Try.ntmps32
 have BI : g < w.heap.size := HI.out.lt
 have DS : fb < w.heap.size := K8 HF.out
 have I9 : fb ≠ g := fun e => HI.out.ne_blk HF.out (by decide) e.symm
 have Vo : w0.heap.size ≤ w.heap.size := I.out.size
 go_wp2
 go_loopw [13] (fun i wr => ∃ k : Nat, k ≤ 8 ∧ i = .int .i64 (k : Int) ∧ Aside0 (W7 s g fb w0 w wr k 0 0) ∧ Aside0 (wr.heap[w.heap.size + 1]? = some (.cells #[.int .u8 77, .int .u8 84, .int .u8 104, .int .u8 100, .int .u8 0, .int .u8 0, .int .u8 0, .int .u8 6] 5 (8, 9)))) (fun i _ => 8 - (intOf i).toNat)
 case atStart =>
  refine ⟨0, by omega, rfl, ⟨⟨?_, ?_, ?_, ?_, ?_, rfl, by omega⟩⟩, ⟨?_⟩⟩
  ·exact (HI.out.alloc _).alloc _
  ·exact I1 (I1 HF.out _) _
  ·exact I1 (by simpa using heap_alloc_new w _) _
  ·exact I6 (I6 I.out _) _
  ·exact F1.of_below (I6 (I6 (Below.refl _ _) _) _) _ _
  ·simpa using heap_alloc_new (w.alloc (.cells #[.pointer (some ⟨fb, 0, none⟩)] 62)) (.cells #[.int .u8 77, .int .u8 84, .int .u8 104, .int .u8 100, .int .u8 0, .int .u8 0, .int .u8 0, .int .u8 6] 5 (8, 9))
 case round =>
  clear HI HF I Cc
  obtain ⟨k, X, rfl, HM, HC⟩ := hrel
  by_cases l4 : k < 8
  ·have EG := cr6 HC.out l4
   have hd : decide ((k : Int) < 8) = true := decide_eq_true (by omega)
   have YF : w.heap.size + 1 < wr.heap.size := K8 HC.out
   have fQ := am (HM.out.alloc (.cells #[.int .u8 (nameAt k)] 5) (by omega) (by omega))
   have Oe := am (I1 HC.out (.cells #[.int .u8 (nameAt k)] 5))
   have QP : (wr.alloc (.cells #[.int .u8 (nameAt k)] 5)).cell? ⟨wr.heap.size, 0, none⟩ = some (.int .u8 (nameAt k)) := (G0 (show (wr.alloc (.cells #[.int .u8 (nameAt k)] 5)).heap[wr.heap.size]? = some (.cells #[.int .u8 (nameAt k)] 5 (0, 0)) by simpa using heap_alloc_new wr _) 0).trans rfl
   have Dy := am QP
   clear QP
   have Ew : 0 ≤ (k : Int) ∧ (k : Int) ≤ s.size := ⟨by omega, HM.out.le⟩
   by_cases b4 : (k : Int) < s.size ∧ WC s k = true
   ·obtain ⟨oL, KH⟩ := b4
    have Wt := am KH
    have HO1 := am oL
    clear oL KH
    go_wp2_with (go_at_call 48; refine (al6 #[.pointer (some ⟨wr.heap.size, 0, none⟩)] (bt s k == nameAt k) g s (k : Int) w0 _ fQ.out.st fQ.out.be Ew hs (fun _ w1 u_ => OM _ _ _ w1 ((XD u_ _).trans Dy.out))).mono ?_; intro e w' O4; obtain ⟨he, hi, G, K4⟩ := V6.yes O4 HO1.out (by rw [← am6 s l4]; exact Wt.out); subst he; have HM2 := am (fQ.out.byte hi G K4 I9 BI (by omega) HO1.out Wt.out); have PC := am (K4.blk Oe.out (by omega) (by simp)); clear O4 hi G K4)
    go_roundw
    case rel => exact ⟨k + 1, by omega, by go_num, HM2, PC⟩
    case measure => simp [intOf]; omega
   ·have U4 := am b4
    clear b4
    go_wp2_with (go_at_call 48; refine (al6 #[.pointer (some ⟨wr.heap.size, 0, none⟩)] (bt s k == nameAt k) g s (k : Int) w0 _ fQ.out.st fQ.out.be Ew hs (fun _ w1 u_ => OM _ _ _ w1 ((XD u_ _).trans Dy.out))).mono ?_; intro e w' O4; obtain ⟨he, G, K4⟩ := V6.no O4 (by rw [← am6 s l4]; exact U4.out); have HG := am (fQ.out.endAt G K4 I9 (by omega) U4.out he); obtain ⟨a_, c_, i3⟩ := ZD he; clear O4 G K4 he; simp only [gone] at i3; subst i3)
    exact ⟨rfl, HG.out⟩
  ·
   obtain rfl : k = 8 := by omega
   have nJ := HM
   clear HM HC
   go_wp2_with fail
   have Gt : 0 ≤ ((8 : Nat) : Int) ∧ ((8 : Nat) : Int) ≤ s.size := ⟨by omega, nJ.out.le⟩
   by_cases b4 : ((8 : Nat) : Int) < s.size ∧ (bt s ((8 : Nat) : Int) == 0) = true
   ·have U4 := am b4
    clear b4
    go_at_call 48
    refine (dZ #[] ((bt s ((8 : Nat) : Int) == 0)) g s ((8 : Nat) : Int) w0 _ ?st ?be Gt hs (fun _ w1 _ => RF _ w1)).mono ?_
    (case st => exact nJ.out.st)
    (case be => first | exact nJ.out.be | exact G6 nJ.out.be)
    intro e w9 O4
    obtain ⟨he, hi, G, K4⟩ := V6.yes O4 U4.out.1 U4.out.2
    subst he
    have pF := am (W7.step 9 rfl (ok8 s) nJ.out hi G K4 I9 BI (by omega) U4.out.1 U4.out.2)
    clear O4 hi G K4 nJ
    go_wp2_with fail
    have Zy := (G0 pF.out.bx 0).trans rfl
    have Dj : 0 ≤ ((9 : Nat) : Int) ∧ ((9 : Nat) : Int) ≤ s.size := ⟨by omega, pF.out.le⟩
    by_cases b4 : ((9 : Nat) : Int) < s.size ∧ decide (bt s ((9 : Nat) : Int) ≤ 1) = true
    ·have U4 := am b4
     clear b4
     go_region_with ((go_at_call 48; refine (Pm #[] (decide (bt s ((9 : Nat) : Int) ≤ 1)) g s ((9 : Nat) : Int) w0 _ ?st ?be Dj hs (fun _ w1 _ => aH _ w1)).mono ?_; (case st => exact pF.out.st); (case be => first | exact pF.out.be | exact G6 pF.out.be); intro e AU O4; obtain ⟨he, hi, G, K4⟩ := V6.yes O4 U4.out.1 U4.out.2; subst he; have YE := am (W7.step 10 rfl (Bm s) pF.out hi G K4 I9 BI (by omega) U4.out.1 U4.out.2); have Be := (G0 YE.out.bx 0).trans rfl; have Sj := Y0 YE.out.fl 0; have Zj := (G0 YE.out.fl 0).trans rfl; clear O4 hi G K4 pF))
     all_goals
      have yI := am (YE.out.setx (bt s 9) DS I9 LQ)
      clear YE Zy Be Sj Zj
      have YE := yI
      clear yI
      go_wp2_with fail
      have Ut : 0 ≤ ((10 : Nat) : Int) ∧ ((10 : Nat) : Int) ≤ s.size := ⟨by omega, YE.out.le⟩
      by_cases b4 : ((10 : Nat) : Int) < s.size ∧ (bt s ((10 : Nat) : Int) == 0) = true
      ·have U4 := am b4
       clear b4
       go_at_call 48
       refine (dZ #[] ((bt s ((10 : Nat) : Int) == 0)) g s ((10 : Nat) : Int) w0 _ ?st ?be Ut hs (fun _ w1 _ => RF _ w1)).mono ?_
       (case st => exact YE.out.st)
       (case be => first | exact YE.out.be | exact G6 YE.out.be)
       intro e pM O4
       obtain ⟨he, hi, G, K4⟩ := V6.yes O4 U4.out.1 U4.out.2
       subst he
       have WF := am (W7.step 11 rfl (ag2 s) YE.out hi G K4 I9 BI (by omega) U4.out.1 U4.out.2)
       clear O4 hi G K4 YE
       go_wp2_with fail
       have Wr : 0 ≤ ((11 : Nat) : Int) ∧ ((11 : Nat) : Int) ≤ s.size := ⟨by omega, WF.out.le⟩
       by_cases b4 : ((11 : Nat) : Int) < s.size ∧ ZG (bt s ((11 : Nat) : Int)) (bt s 9) = true
       ·have U4 := am b4
        clear b4
        go_at_call 48
        refine (as0 #[.pointer (some ⟨w.heap.size, 0, none⟩)] (ZG (bt s ((11 : Nat) : Int)) (bt s 9)) g s ((11 : Nat) : Int) w0 _ ?st ?be Wr hs (fun _ w1 u_ => AC _ _ _ fb w1 ((XD u_ _).trans ((G0 WF.out.bx 0).trans rfl)) ((XD u_ _).trans ((G0 WF.out.fl 0).trans rfl)))).mono ?_
        (case st => exact WF.out.st)
        (case be => first | exact WF.out.be | exact G6 WF.out.be)
        intro e BH O4
        obtain ⟨he, hi, G, K4⟩ := V6.yes O4 U4.out.1 U4.out.2
        subst he
        have LJ := am (W7.step 12 rfl (ar5 s) WF.out hi G K4 I9 BI (by omega) U4.out.1 U4.out.2)
        clear O4 hi G K4 WF
        go_wp2_with fail
        have ac3 : 0 ≤ ((12 : Nat) : Int) ∧ ((12 : Nat) : Int) ≤ s.size := ⟨by omega, LJ.out.le⟩
        by_cases b4 : ((12 : Nat) : Int) < s.size ∧ decide (bt s ((12 : Nat) : Int) < 128) = true
        ·have U4 := am b4
         clear b4
         go_at_call 48
         refine (ap2 #[] (decide (bt s ((12 : Nat) : Int) < 128)) g s ((12 : Nat) : Int) w0 _ ?st ?be ac3 hs (fun _ w1 _ => lP _ w1)).mono ?_
         (case st => exact LJ.out.st)
         (case be => first | exact LJ.out.be | exact G6 LJ.out.be)
         intro e n7 O4
         obtain ⟨he, hi, G, K4⟩ := V6.yes O4 U4.out.1 U4.out.2
         subst he
         have x_ := am (W7.step 13 rfl (aq5 s) LJ.out hi G K4 I9 BI (by omega) U4.out.1 U4.out.2)
         clear O4 hi G K4 LJ
         go_wp2_with fail
         have YF := K8 x_.out.bx
         have yI := am (x_.out.alloc (.cells #[.int .i64 (bt s 12)] 3) (by omega) (by omega))
         clear x_
         have x_ := yI
         clear yI
         have HH := am (show (n7.alloc (.cells #[.int .i64 (bt s 12)] 3)).heap[n7.heap.size]? = some (.cells #[.int .i64 (bt s 12)] 3 (0, 0)) by simpa using heap_alloc_new n7 _)
         have Zy := (G0 x_.out.bx 0).trans rfl
         have hhc := (G0 HH.out 0).trans rfl
         have DH : 0 ≤ ((13 : Nat) : Int) ∧ ((13 : Nat) : Int) ≤ s.size := ⟨by omega, x_.out.le⟩
         by_cases b4 : ((13 : Nat) : Int) < s.size ∧ (decide (bt s ((13 : Nat) : Int) > 0) || decide (bt s 12 > 0)) = true
         ·have U4 := am b4
          clear b4
          go_region_with ((go_at_call 48; refine (eI #[.pointer (some ⟨n7.heap.size, 0, none⟩)] ((decide (bt s ((13 : Nat) : Int) > 0) || decide (bt s 12 > 0))) g s ((13 : Nat) : Int) w0 (n7.alloc (.cells #[.int .i64 (bt s 12)] 3)).drew ?st ?be DH hs (fun _ w1 u_ => iD _ _ _ w1 ((XD (show w1.heap = (n7.alloc (.cells #[.int .i64 (bt s 12)] 3)).heap from u_) _).trans ((G0 HH.out 0).trans rfl)))).mono ?_; (case st => exact x_.out.st); (case be => exact UH); intro e nA O4; obtain ⟨he, hi, G, K4⟩ := V6.yes O4 U4.out.1 U4.out.2; subst he; have oU := am (W7.step 14 rfl (ZH s) x_.out hi G K4 I9 BI (by omega) U4.out.1 U4.out.2); have Be := (G0 oU.out.bx 0).trans rfl; have Sj := Y0 oU.out.fl 1; have Zj := (G0 oU.out.fl 1).trans rfl; have Ow := am (K4.blk HH.out (by omega) (by simp)); have ck3 := (G0 Ow.out 0).trans rfl; clear O4 hi G K4 x_))
          all_goals
           have yI := am (oU.out.sety (fB (bt s 12) (bt s 13)) DS I9 LQ)
           clear oU Be Sj Zj Ow ck3
           go_wp2
           go_ret
           exact ⟨yI.out.be, yI.out.kp, _, _, yI.out.fl, by rw [show kC s 14 0 = none from yI.out.go]; exact ⟨rfl, yI.out.st, rfl, rfl⟩⟩
         ·have U4 := am b4
          clear b4
          refine wp_region_any (by kernel_rfl) ?_
          (try (change wpAny _ _ _ _ _ _ _ (World.drew _)))
          refine wpAny_take (i := 3) (v := .pointer (some ⟨g, 0, none⟩)) rfl (by kernel_rfl) (by kernel_rfl) (by kernel_rfl) (fun _ _ _ h => h) (Or.inl ⟨by rfl, ?_⟩) ?_
          ·intro w_; go_simp
          refine wpAny_ready (rs := [0, 1, 4]) (by kernel_rfl) (by simp) ?_
          refine AllReady.cons rfl (fun K hK => ?_) (AllReady.cons rfl (fun K hK => ?_) (AllReady.cons rfl (fun K hK => ?_) (AllReady.nil)))
          ·go_simp
           refine hK _ _ ?_
           clear hK K
           refine wpAny_ready (rs := [1, 4]) (by kernel_rfl) (by simp) ?_
           refine AllReady.cons rfl (fun K hK => ?_) (AllReady.cons rfl (fun K hK => ?_) (AllReady.nil))
           ·go_simp
            refine hK _ _ ?_
            clear hK K
            refine wpAny_take (i := 2) (v := .int .i64 (IntKind.i64.wrap (bt s 12 * 256))) rfl (by kernel_rfl) (by kernel_rfl) (by kernel_rfl) (fun _ _ _ h => h) (Or.inl ⟨by rfl, ?_⟩) ?_
            ·intro w_; go_simp
            refine wpAny_ready (rs := [4]) (by kernel_rfl) (by simp) ?_
            refine AllReady.cons rfl (fun K hK => ?_) (AllReady.nil)
            ·go_simp
             refine hK _ _ ?_
             clear hK K
             refine wpAny_ready (rs := [5]) (by kernel_rfl) (by simp) ?_
             refine AllReady.cons rfl (fun K hK => ?_) (AllReady.nil)
             ·go_simp
              go_wp2_with ((go_at_call 48; refine (eI #[.pointer (some ⟨n7.heap.size, 0, none⟩)] ((decide (bt s ((13 : Nat) : Int) > 0) || decide (bt s 12 > 0))) g s ((13 : Nat) : Int) w0 (n7.alloc (.cells #[.int .i64 (bt s 12)] 3)).drew ?st ?be DH hs (fun _ w1 u_ => iD _ _ _ w1 ((XD (show w1.heap = (n7.alloc (.cells #[.int .i64 (bt s 12)] 3)).heap from u_) _).trans ((G0 HH.out 0).trans rfl)))).mono ?_; (case st => exact x_.out.st); (case be => exact UH); intro e nA O4; obtain ⟨he, G, K4⟩ := V6.no O4 U4.out; have HG := am (W7.ends (ZH s) x_.out G K4 I9 (by omega) U4.out he); obtain ⟨a_, c_, i3⟩ := ZD he; clear O4 G K4 he; simp only [gone] at i3; subst i3))
              exact ⟨rfl, HG.out⟩
           ·go_simp
            refine hK _ _ ?_
            clear hK K
            refine wpAny_ready (rs := [1, 5]) (by kernel_rfl) (by simp) ?_
            refine AllReady.cons rfl (fun K hK => ?_) (AllReady.cons rfl (fun K hK => ?_) (AllReady.nil))
            ·go_simp
             refine hK _ _ ?_
             clear hK K
             refine wpAny_take (i := 2) (v := .int .i64 (IntKind.i64.wrap (bt s 12 * 256))) rfl (by kernel_rfl) (by kernel_rfl) (by kernel_rfl) (fun _ _ _ h => h) (Or.inl ⟨by rfl, ?_⟩) ?_
             ·intro w_; go_simp
             refine wpAny_ready (rs := [5]) (by kernel_rfl) (by simp) ?_
             refine AllReady.cons rfl (fun K hK => ?_) (AllReady.nil)
             ·go_simp
              go_wp2_with ((go_at_call 48; refine (eI #[.pointer (some ⟨n7.heap.size, 0, none⟩)] ((decide (bt s ((13 : Nat) : Int) > 0) || decide (bt s 12 > 0))) g s ((13 : Nat) : Int) w0 (n7.alloc (.cells #[.int .i64 (bt s 12)] 3)).drew ?st ?be DH hs (fun _ w1 u_ => iD _ _ _ w1 ((XD (show w1.heap = (n7.alloc (.cells #[.int .i64 (bt s 12)] 3)).heap from u_) _).trans ((G0 HH.out 0).trans rfl)))).mono ?_; (case st => exact x_.out.st); (case be => exact UH); intro e nA O4; obtain ⟨he, G, K4⟩ := V6.no O4 U4.out; have HG := am (W7.ends (ZH s) x_.out G K4 I9 (by omega) U4.out he); obtain ⟨a_, c_, i3⟩ := ZD he; clear O4 G K4 he; simp only [gone] at i3; subst i3))
              exact ⟨rfl, HG.out⟩
            ·go_simp
             go_wp2_with ((go_at_call 48; refine (eI #[.pointer (some ⟨n7.heap.size, 0, none⟩)] ((decide (bt s ((13 : Nat) : Int) > 0) || decide (bt s 12 > 0))) g s ((13 : Nat) : Int) w0 (n7.alloc (.cells #[.int .i64 (bt s 12)] 3)).drew ?st ?be DH hs (fun _ w1 u_ => iD _ _ _ w1 ((XD (show w1.heap = (n7.alloc (.cells #[.int .i64 (bt s 12)] 3)).heap from u_) _).trans ((G0 HH.out 0).trans rfl)))).mono ?_; (case st => exact x_.out.st); (case be => exact UH); intro e nA O4; obtain ⟨he, G, K4⟩ := V6.no O4 U4.out; have HG := am (W7.ends (ZH s) x_.out G K4 I9 (by omega) U4.out he); obtain ⟨a_, c_, i3⟩ := ZD he; clear O4 G K4 he; simp only [gone] at i3; subst i3))
             exact ⟨rfl, HG.out⟩
          ·go_simp
           refine hK _ _ ?_
           clear hK K
           refine wpAny_take (i := 2) (v := .int .i64 (IntKind.i64.wrap (bt s 12 * 256))) rfl (by kernel_rfl) (by kernel_rfl) (by kernel_rfl) (fun _ _ _ h => h) (Or.inl ⟨by rfl, ?_⟩) ?_
           ·intro w_; go_simp
           refine wpAny_ready (rs := [0, 4]) (by kernel_rfl) (by simp) ?_
           refine AllReady.cons rfl (fun K hK => ?_) (AllReady.cons rfl (fun K hK => ?_) (AllReady.nil))
           ·go_simp
            refine hK _ _ ?_
            clear hK K
            refine wpAny_ready (rs := [4]) (by kernel_rfl) (by simp) ?_
            refine AllReady.cons rfl (fun K hK => ?_) (AllReady.nil)
            ·go_simp
             refine hK _ _ ?_
             clear hK K
             refine wpAny_ready (rs := [5]) (by kernel_rfl) (by simp) ?_
             refine AllReady.cons rfl (fun K hK => ?_) (AllReady.nil)
             ·go_simp
              go_wp2_with ((go_at_call 48; refine (eI #[.pointer (some ⟨n7.heap.size, 0, none⟩)] ((decide (bt s ((13 : Nat) : Int) > 0) || decide (bt s 12 > 0))) g s ((13 : Nat) : Int) w0 (n7.alloc (.cells #[.int .i64 (bt s 12)] 3)).drew ?st ?be DH hs (fun _ w1 u_ => iD _ _ _ w1 ((XD (show w1.heap = (n7.alloc (.cells #[.int .i64 (bt s 12)] 3)).heap from u_) _).trans ((G0 HH.out 0).trans rfl)))).mono ?_; (case st => exact x_.out.st); (case be => exact UH); intro e nA O4; obtain ⟨he, G, K4⟩ := V6.no O4 U4.out; have HG := am (W7.ends (ZH s) x_.out G K4 I9 (by omega) U4.out he); obtain ⟨a_, c_, i3⟩ := ZD he; clear O4 G K4 he; simp only [gone] at i3; subst i3))
              exact ⟨rfl, HG.out⟩
           ·go_simp
            refine hK _ _ ?_
            clear hK K
            refine wpAny_ready (rs := [0, 5]) (by kernel_rfl) (by simp) ?_
            refine AllReady.cons rfl (fun K hK => ?_) (AllReady.cons rfl (fun K hK => ?_) (AllReady.nil))
            ·go_simp
             refine hK _ _ ?_
             clear hK K
             refine wpAny_ready (rs := [5]) (by kernel_rfl) (by simp) ?_
             refine AllReady.cons rfl (fun K hK => ?_) (AllReady.nil)
             ·go_simp
              go_wp2_with ((go_at_call 48; refine (eI #[.pointer (some ⟨n7.heap.size, 0, none⟩)] ((decide (bt s ((13 : Nat) : Int) > 0) || decide (bt s 12 > 0))) g s ((13 : Nat) : Int) w0 (n7.alloc (.cells #[.int .i64 (bt s 12)] 3)).drew ?st ?be DH hs (fun _ w1 u_ => iD _ _ _ w1 ((XD (show w1.heap = (n7.alloc (.cells #[.int .i64 (bt s 12)] 3)).heap from u_) _).trans ((G0 HH.out 0).trans rfl)))).mono ?_; (case st => exact x_.out.st); (case be => exact UH); intro e nA O4; obtain ⟨he, G, K4⟩ := V6.no O4 U4.out; have HG := am (W7.ends (ZH s) x_.out G K4 I9 (by omega) U4.out he); obtain ⟨a_, c_, i3⟩ := ZD he; clear O4 G K4 he; simp only [gone] at i3; subst i3))
              exact ⟨rfl, HG.out⟩
            ·go_simp
             go_wp2_with ((go_at_call 48; refine (eI #[.pointer (some ⟨n7.heap.size, 0, none⟩)] ((decide (bt s ((13 : Nat) : Int) > 0) || decide (bt s 12 > 0))) g s ((13 : Nat) : Int) w0 (n7.alloc (.cells #[.int .i64 (bt s 12)] 3)).drew ?st ?be DH hs (fun _ w1 u_ => iD _ _ _ w1 ((XD (show w1.heap = (n7.alloc (.cells #[.int .i64 (bt s 12)] 3)).heap from u_) _).trans ((G0 HH.out 0).trans rfl)))).mono ?_; (case st => exact x_.out.st); (case be => exact UH); intro e nA O4; obtain ⟨he, G, K4⟩ := V6.no O4 U4.out; have HG := am (W7.ends (ZH s) x_.out G K4 I9 (by omega) U4.out he); obtain ⟨a_, c_, i3⟩ := ZD he; clear O4 G K4 he; simp only [gone] at i3; subst i3))
             exact ⟨rfl, HG.out⟩
          ·go_simp
           refine hK _ _ ?_
           clear hK K
           refine wpAny_ready (rs := [0, 1, 5]) (by kernel_rfl) (by simp) ?_
           refine AllReady.cons rfl (fun K hK => ?_) (AllReady.cons rfl (fun K hK => ?_) (AllReady.cons rfl (fun K hK => ?_) (AllReady.nil)))
           ·go_simp
            refine hK _ _ ?_
            clear hK K
            refine wpAny_ready (rs := [1, 5]) (by kernel_rfl) (by simp) ?_
            refine AllReady.cons rfl (fun K hK => ?_) (AllReady.cons rfl (fun K hK => ?_) (AllReady.nil))
            ·go_simp
             refine hK _ _ ?_
             clear hK K
             refine wpAny_take (i := 2) (v := .int .i64 (IntKind.i64.wrap (bt s 12 * 256))) rfl (by kernel_rfl) (by kernel_rfl) (by kernel_rfl) (fun _ _ _ h => h) (Or.inl ⟨by rfl, ?_⟩) ?_
             ·intro w_; go_simp
             refine wpAny_ready (rs := [5]) (by kernel_rfl) (by simp) ?_
             refine AllReady.cons rfl (fun K hK => ?_) (AllReady.nil)
             ·go_simp
              go_wp2_with ((go_at_call 48; refine (eI #[.pointer (some ⟨n7.heap.size, 0, none⟩)] ((decide (bt s ((13 : Nat) : Int) > 0) || decide (bt s 12 > 0))) g s ((13 : Nat) : Int) w0 (n7.alloc (.cells #[.int .i64 (bt s 12)] 3)).drew ?st ?be DH hs (fun _ w1 u_ => iD _ _ _ w1 ((XD (show w1.heap = (n7.alloc (.cells #[.int .i64 (bt s 12)] 3)).heap from u_) _).trans ((G0 HH.out 0).trans rfl)))).mono ?_; (case st => exact x_.out.st); (case be => exact UH); intro e nA O4; obtain ⟨he, G, K4⟩ := V6.no O4 U4.out; have HG := am (W7.ends (ZH s) x_.out G K4 I9 (by omega) U4.out he); obtain ⟨a_, c_, i3⟩ := ZD he; clear O4 G K4 he; simp only [gone] at i3; subst i3))
              exact ⟨rfl, HG.out⟩
            ·go_simp
             go_wp2_with ((go_at_call 48; refine (eI #[.pointer (some ⟨n7.heap.size, 0, none⟩)] ((decide (bt s ((13 : Nat) : Int) > 0) || decide (bt s 12 > 0))) g s ((13 : Nat) : Int) w0 (n7.alloc (.cells #[.int .i64 (bt s 12)] 3)).drew ?st ?be DH hs (fun _ w1 u_ => iD _ _ _ w1 ((XD (show w1.heap = (n7.alloc (.cells #[.int .i64 (bt s 12)] 3)).heap from u_) _).trans ((G0 HH.out 0).trans rfl)))).mono ?_; (case st => exact x_.out.st); (case be => exact UH); intro e nA O4; obtain ⟨he, G, K4⟩ := V6.no O4 U4.out; have HG := am (W7.ends (ZH s) x_.out G K4 I9 (by omega) U4.out he); obtain ⟨a_, c_, i3⟩ := ZD he; clear O4 G K4 he; simp only [gone] at i3; subst i3))
             exact ⟨rfl, HG.out⟩
           ·go_simp
            refine hK _ _ ?_
            clear hK K
            refine wpAny_take (i := 2) (v := .int .i64 (IntKind.i64.wrap (bt s 12 * 256))) rfl (by kernel_rfl) (by kernel_rfl) (by kernel_rfl) (fun _ _ _ h => h) (Or.inl ⟨by rfl, ?_⟩) ?_
            ·intro w_; go_simp
            refine wpAny_ready (rs := [0, 5]) (by kernel_rfl) (by simp) ?_
            refine AllReady.cons rfl (fun K hK => ?_) (AllReady.cons rfl (fun K hK => ?_) (AllReady.nil))
            ·go_simp
             refine hK _ _ ?_
             clear hK K
             refine wpAny_ready (rs := [5]) (by kernel_rfl) (by simp) ?_
             refine AllReady.cons rfl (fun K hK => ?_) (AllReady.nil)
             ·go_simp
              go_wp2_with ((go_at_call 48; refine (eI #[.pointer (some ⟨n7.heap.size, 0, none⟩)] ((decide (bt s ((13 : Nat) : Int) > 0) || decide (bt s 12 > 0))) g s ((13 : Nat) : Int) w0 (n7.alloc (.cells #[.int .i64 (bt s 12)] 3)).drew ?st ?be DH hs (fun _ w1 u_ => iD _ _ _ w1 ((XD (show w1.heap = (n7.alloc (.cells #[.int .i64 (bt s 12)] 3)).heap from u_) _).trans ((G0 HH.out 0).trans rfl)))).mono ?_; (case st => exact x_.out.st); (case be => exact UH); intro e nA O4; obtain ⟨he, G, K4⟩ := V6.no O4 U4.out; have HG := am (W7.ends (ZH s) x_.out G K4 I9 (by omega) U4.out he); obtain ⟨a_, c_, i3⟩ := ZD he; clear O4 G K4 he; simp only [gone] at i3; subst i3))
              exact ⟨rfl, HG.out⟩
            ·go_simp
             go_wp2_with ((go_at_call 48; refine (eI #[.pointer (some ⟨n7.heap.size, 0, none⟩)] ((decide (bt s ((13 : Nat) : Int) > 0) || decide (bt s 12 > 0))) g s ((13 : Nat) : Int) w0 (n7.alloc (.cells #[.int .i64 (bt s 12)] 3)).drew ?st ?be DH hs (fun _ w1 u_ => iD _ _ _ w1 ((XD (show w1.heap = (n7.alloc (.cells #[.int .i64 (bt s 12)] 3)).heap from u_) _).trans ((G0 HH.out 0).trans rfl)))).mono ?_; (case st => exact x_.out.st); (case be => exact UH); intro e nA O4; obtain ⟨he, G, K4⟩ := V6.no O4 U4.out; have HG := am (W7.ends (ZH s) x_.out G K4 I9 (by omega) U4.out he); obtain ⟨a_, c_, i3⟩ := ZD he; clear O4 G K4 he; simp only [gone] at i3; subst i3))
             exact ⟨rfl, HG.out⟩
           ·go_simp
            go_wp2_with ((go_at_call 48; refine (eI #[.pointer (some ⟨n7.heap.size, 0, none⟩)] ((decide (bt s ((13 : Nat) : Int) > 0) || decide (bt s 12 > 0))) g s ((13 : Nat) : Int) w0 (n7.alloc (.cells #[.int .i64 (bt s 12)] 3)).drew ?st ?be DH hs (fun _ w1 u_ => iD _ _ _ w1 ((XD (show w1.heap = (n7.alloc (.cells #[.int .i64 (bt s 12)] 3)).heap from u_) _).trans ((G0 HH.out 0).trans rfl)))).mono ?_; (case st => exact x_.out.st); (case be => exact UH); intro e nA O4; obtain ⟨he, G, K4⟩ := V6.no O4 U4.out; have HG := am (W7.ends (ZH s) x_.out G K4 I9 (by omega) U4.out he); obtain ⟨a_, c_, i3⟩ := ZD he; clear O4 G K4 he; simp only [gone] at i3; subst i3))
            exact ⟨rfl, HG.out⟩
        ·have U4 := am b4
         clear b4
         go_at_call 48
         refine (ap2 #[] (decide (bt s ((12 : Nat) : Int) < 128)) g s ((12 : Nat) : Int) w0 _ ?st ?be ac3 hs (fun _ w1 _ => lP _ w1)).mono ?_
         (case st => exact LJ.out.st)
         (case be => first | exact LJ.out.be | exact G6 LJ.out.be)
         intro e n7 O4
         obtain ⟨he, G, K4⟩ := V6.no O4 U4.out
         have HG := am (W7.ends (aq5 s) LJ.out G K4 I9 (by omega) U4.out he)
         obtain ⟨a_, c_, i3⟩ := ZD he
         clear O4 G K4 he
         simp only [gone] at i3
         subst i3
         go_wp2_with fail
         exact ⟨rfl, HG.out⟩
       ·have U4 := am b4
        clear b4
        go_at_call 48
        refine (as0 #[.pointer (some ⟨w.heap.size, 0, none⟩)] (ZG (bt s ((11 : Nat) : Int)) (bt s 9)) g s ((11 : Nat) : Int) w0 _ ?st ?be Wr hs (fun _ w1 u_ => AC _ _ _ fb w1 ((XD u_ _).trans ((G0 WF.out.bx 0).trans rfl)) ((XD u_ _).trans ((G0 WF.out.fl 0).trans rfl)))).mono ?_
        (case st => exact WF.out.st)
        (case be => first | exact WF.out.be | exact G6 WF.out.be)
        intro e BH O4
        obtain ⟨he, G, K4⟩ := V6.no O4 U4.out
        have HG := am (W7.ends (ar5 s) WF.out G K4 I9 (by omega) U4.out he)
        obtain ⟨a_, c_, i3⟩ := ZD he
        clear O4 G K4 he
        simp only [gone] at i3
        subst i3
        go_wp2_with fail
        exact ⟨rfl, HG.out⟩
      ·have U4 := am b4
       clear b4
       go_at_call 48
       refine (dZ #[] ((bt s ((10 : Nat) : Int) == 0)) g s ((10 : Nat) : Int) w0 _ ?st ?be Ut hs (fun _ w1 _ => RF _ w1)).mono ?_
       (case st => exact YE.out.st)
       (case be => first | exact YE.out.be | exact G6 YE.out.be)
       intro e pM O4
       obtain ⟨he, G, K4⟩ := V6.no O4 U4.out
       have HG := am (W7.ends (ag2 s) YE.out G K4 I9 (by omega) U4.out he)
       obtain ⟨a_, c_, i3⟩ := ZD he
       clear O4 G K4 he
       simp only [gone] at i3
       subst i3
       go_wp2_with fail
       exact ⟨rfl, HG.out⟩
    ·have U4 := am b4
     clear b4
     refine wp_region_any (by kernel_rfl) ?_
     (try (change wpAny _ _ _ _ _ _ _ (World.drew _)))
     refine wpAny_take (i := 1) (v := .pointer (some ⟨g, 0, none⟩)) rfl (by kernel_rfl) (by kernel_rfl) (by kernel_rfl) (fun _ _ _ h => h) (Or.inl ⟨by rfl, ?_⟩) ?_
     ·intro w_; go_simp
     refine wpAny_ready (rs := [0, 2]) (by kernel_rfl) (by simp) ?_
     refine AllReady.cons rfl (fun K hK => ?_) (AllReady.cons rfl (fun K hK => ?_) (AllReady.nil))
     ·go_simp
      refine hK _ _ ?_
      clear hK K
      refine wpAny_ready (rs := [2]) (by kernel_rfl) (by simp) ?_
      refine AllReady.cons rfl (fun K hK => ?_) (AllReady.nil)
      ·go_simp
       go_wp2_with ((go_at_call 48; refine (Pm #[] (decide (bt s ((9 : Nat) : Int) ≤ 1)) g s ((9 : Nat) : Int) w0 _ ?st ?be Dj hs (fun _ w1 _ => aH _ w1)).mono ?_; (case st => exact pF.out.st); (case be => first | exact pF.out.be | exact G6 pF.out.be); intro e AU O4; obtain ⟨he, G, K4⟩ := V6.no O4 U4.out; have HG := am (W7.ends (Bm s) pF.out G K4 I9 (by omega) U4.out he); obtain ⟨a_, c_, i3⟩ := ZD he; clear O4 G K4 he; simp only [gone] at i3; subst i3))
       exact ⟨rfl, HG.out⟩
     ·go_simp
      go_wp2_with ((go_at_call 48; refine (Pm #[] (decide (bt s ((9 : Nat) : Int) ≤ 1)) g s ((9 : Nat) : Int) w0 _ ?st ?be Dj hs (fun _ w1 _ => aH _ w1)).mono ?_; (case st => exact pF.out.st); (case be => first | exact pF.out.be | exact G6 pF.out.be); intro e AU O4; obtain ⟨he, G, K4⟩ := V6.no O4 U4.out; have HG := am (W7.ends (Bm s) pF.out G K4 I9 (by omega) U4.out he); obtain ⟨a_, c_, i3⟩ := ZD he; clear O4 G K4 he; simp only [gone] at i3; subst i3))
      exact ⟨rfl, HG.out⟩
   ·have U4 := am b4
    clear b4
    go_at_call 48
    refine (dZ #[] ((bt s ((8 : Nat) : Int) == 0)) g s ((8 : Nat) : Int) w0 _ ?st ?be Gt hs (fun _ w1 _ => RF _ w1)).mono ?_
    (case st => exact nJ.out.st)
    (case be => first | exact nJ.out.be | exact G6 nJ.out.be)
    intro e w9 O4
    obtain ⟨he, G, K4⟩ := V6.no O4 U4.out
    have HG := am (W7.ends (ok8 s) nJ.out G K4 I9 (by omega) U4.out he)
    obtain ⟨a_, c_, i3⟩ := ZD he
    clear O4 G K4 he
    simp only [gone] at i3
    subst i3
    go_wp2_with fail
    exact ⟨rfl, HG.out⟩
end Go.Proofs.Ytdmnknhlibaaoaa.M
namespace Go.Proofs.Ytdmnknhlibaaoaa.M
open Go.RowKit Go.Proofs.YtdmnknhlibaaoaaW.PrintWords Go.Proofs.YtdmnknhlibaaoaaW.PrintLast Go.Proofs.YtdmnknhlibaaoaaW.PrintMore
set_option linter.unusedVariables false
set_option linter.unusedSimpArgs false
theorem at4 {n b : Int} (h0 : 0 ≤ n) (h1 : n < 4294967296) (b0 : 0 ≤ b) (b1 : b < 256) : fB n b = n * 256 + b := by
 have hw : IntKind.i64.wrap (n * 256) = n * 256 := by rw [IntKind.wrap_i64]; omega
 unfold fB
 rw [hw]
 refine bits_join .i64 62 (by decide) (fun m m0 m1 => ?_) 8 (n * 256) b (by omega) ?_ ?_ b0 ?_ ?_
 ·rw [IntKind.wrap_i64]
  have : (2 : Int) ^ 62 = 4611686018427387904 := by decide
  omega
 ·have : (2 : Int) ^ 8 = 256 := by decide
  omega
 ·have : (2 : Int) ^ 62 = 4611686018427387904 := by decide
  omega
 ·have : (2 : Int) ^ 8 = 256 := by decide
  omega
 ·have : (2 : Int) ^ 62 = 4611686018427387904 := by decide
  omega
def b8 (t : ByteArray) : Nat → Int
 | 0 => 0
 | k + 1 => fB (b8 t k) (bt t (k : Int))
theorem jV {t : ByteArray} {k : Nat} (h0 : 0 ≤ b8 t k) (h1 : b8 t k < 16777216) : b8 t (k + 1) = b8 t k * 256 + bt t (k : Int) := by
 have G := aD t (k : Int)
 rw [b8, at4 h0 (by omega) G.1 (by omega)]
theorem qZ (t : ByteArray) : (0 ≤ b8 t 1 ∧ b8 t 1 < 256) ∧ (0 ≤ b8 t 2 ∧ b8 t 2 < 65536) ∧ (0 ≤ b8 t 3 ∧ b8 t 3 < 16777216) ∧ (0 ≤ b8 t 4 ∧ b8 t 4 < 4294967296) := by
 have e0 : b8 t 0 = 0 := rfl
 have b0 := aD t ((0 : Nat) : Int)
 have b1 := aD t ((1 : Nat) : Int)
 have b2 := aD t ((2 : Nat) : Int)
 have b3 := aD t ((3 : Nat) : Int)
 have e1 : b8 t 1 = b8 t 0 * 256 + bt t ((0 : Nat) : Int) := jV (t := t) (k := 0) (by omega) (by omega)
 have e2 : b8 t 2 = b8 t 1 * 256 + bt t ((1 : Nat) : Int) := jV (t := t) (k := 1) (by omega) (by omega)
 have e3 : b8 t 3 = b8 t 2 * 256 + bt t ((2 : Nat) : Int) := jV (t := t) (k := 2) (by omega) (by omega)
 have e4 : b8 t 4 = b8 t 3 * 256 + bt t ((3 : Nat) : Int) := jV (t := t) (k := 3) (by omega) (by omega)
 omega
theorem cv7 (W : World) (t : ByteArray) (k : Nat) (X : k < t.size) : (Lib.bytesWorld W 5 t).cell? ⟨W.heap.size, k, none⟩ = some (.int .u8 (bt t (k : Int))) := by
 rw [Lib.bytesWorld_cell W 5 t k X]
 have vU : k < t.data.size := X
 have : bt t (k : Int) = ((t.data.toList.getD k 0).toNat : Int) := by
  unfold bt
  rw [dif_pos (by simpa using X)]
  show ((t.data[k]).toNat : Int) = _
  rw [List.getD_eq_getElem?_getD, Array.getElem?_toList, Array.getElem?_eq_getElem vU]
  rfl
 rw [this]
end Go.Proofs.Ytdmnknhlibaaoaa.M
namespace Go.Proofs.Ytdmnknhlibaaoaa.M
open Go.RowKit Go.Proofs.YtdmnknhlibaaoaaW.PrintWords Go.Proofs.YtdmnknhlibaaoaaW.PrintLast Go.Proofs.YtdmnknhlibaaoaaW.PrintMore
attribute [local go_sem] cH bH eH jH fH nH qH oH
set_option linter.unusedVariables false
set_option linter.unusedSimpArgs false
def X1 (w0 W : World) (g : Nat) (f0 : ByteArray) (f1 : Int) (f2 : Int) (f3 : Int) : Prop := W.heap[g]? = some (.cells #[.string f0, .int .i64 f1, .int .i64 f2, .int .i64 f3] 86 (0, 0)) ∧ w0.heap.size ≤ g
theorem X1.grown {w0 W : World} {g : Nat} {f0 : ByteArray} {f1 : Int} {f2 : Int} {f3 : Int} {W1 : World} {row : Option Nat} (h : X1 w0 W g f0 f1 f2 f3) (hw : W.grownBy W1 row) (J8 : some g ≠ row) : X1 w0 W1 g f0 f1 f2 f3 := by
 obtain ⟨G, hg⟩ := h
 exact ⟨U6 G hw J8, hg⟩
theorem X1.kept {w0 W : World} {g : Nat} {f0 : ByteArray} {f1 : Int} {f2 : Int} {f3 : Int} {W1 : World} {S : Nat → Prop} (h : X1 w0 W g f0 f1 f2 f3) (X : Kept W W1 S) (J8 : ¬ S g) : X1 w0 W1 g f0 f1 f2 f3 := by
 obtain ⟨G, hg⟩ := h
 exact ⟨at1 G X J8, hg⟩
theorem X1.below {w0 W : World} {g : Nat} {f0 : ByteArray} {f1 : Int} {f2 : Int} {f3 : Int} {W1 : World} (h : X1 w0 W g f0 f1 f2 f3) (hw : Below W.heap.size W W1) : X1 w0 W1 g f0 f1 f2 f3 := h.grown (Mn hw none) (by simp)
theorem X1.alloc {w0 W : World} {g : Nat} {f0 : ByteArray} {f1 : Int} {f2 : Int} {f3 : Int} (h : X1 w0 W g f0 f1 f2 f3) (o : Obj) : X1 w0 (W.alloc o) g f0 f1 f2 f3 := h.below (I6 (Below.refl _ _) o)
theorem X1.drewN {w0 W : World} {g : Nat} {f0 : ByteArray} {f1 : Int} {f2 : Int} {f3 : Int} (h : X1 w0 W g f0 f1 f2 f3) (m : Nat) : X1 w0 (W.drewN m) g f0 f1 f2 f3 := h
theorem X1.drew {w0 W : World} {g : Nat} {f0 : ByteArray} {f1 : Int} {f2 : Int} {f3 : Int} (h : X1 w0 W g f0 f1 f2 f3) : X1 w0 W.drew g f0 f1 f2 f3 := h
theorem X1.at_ {w0 W : World} {g : Nat} {f0 : ByteArray} {f1 : Int} {f2 : Int} {f3 : Int} {w' : World} {m : Nat} (hq : W.drewN m = w') (h : X1 w0 W g f0 f1 f2 f3) : X1 w0 w' g f0 f1 f2 f3 := by subst hq; exact X1.drewN h m
theorem X1.apart {w0 W : World} {g : Nat} {f0 : ByteArray} {f1 : Int} {f2 : Int} {f3 : Int} {α : Type} {d : Kd α} {e : Nat} {base : Nat} {ok : Nat → Prop} {v : Value} {xs : List α} (h : X1 w0 W g f0 f1 f2 f3) (ho : d.R e W base ok v xs) (ht : ∀ q, q ∈ e :: d.E → q ≠ 86) : d.R e W base (fun k => ok k ∧ k ≠ g) v xs := by
 obtain ⟨G, hg⟩ := h
 exact Kd.kA ho G ht
theorem X1.own_ne {w0 W : World} {g : Nat} {f0 : ByteArray} {f1 : Int} {f2 : Int} {f3 : Int} {α : Type} {d : Kd α} {e : Nat} {base : Nat} {ok : Nat → Prop} {v : Value} {xs : List α} (h : X1 w0 W g f0 f1 f2 f3) (ho : d.R e W base ok v xs) (ht : e ≠ 86) : some g ≠ v.ownBlock := by
 obtain ⟨G, hg⟩ := h
 exact Kd.n9 ho G ht
theorem X1.lt {w0 W : World} {g : Nat} {f0 : ByteArray} {f1 : Int} {f2 : Int} {f3 : Int} (h : X1 w0 W g f0 f1 f2 f3) : g < W.heap.size := by
 obtain ⟨G, hg⟩ := h
 exact K8 G
theorem X1.ge {w0 W : World} {g : Nat} {f0 : ByteArray} {f1 : Int} {f2 : Int} {f3 : Int} (h : X1 w0 W g f0 f1 f2 f3) : w0.heap.size ≤ g := by
 obtain ⟨G, hg⟩ := h
 exact hg
theorem X1.ne_blk {w0 W : World} {g : Nat} {f0 : ByteArray} {f1 : Int} {f2 : Int} {f3 : Int} {a : Nat} {cs : Array Value} {t : TypeId} {fr : Nat × Nat} (h : X1 w0 W g f0 f1 f2 f3) (C5 : W.heap[a]? = some (.cells cs t fr)) (ht : t ≠ 86) : g ≠ a := by
 obtain ⟨G, hg⟩ := h
 rintro rfl
 rw [G] at C5
 injection C5 with C5
 injection C5 with _ ht2
 exact ht ht2.symm
theorem X1.far {w0 W : World} {g : Nat} {f0 : ByteArray} {f1 : Int} {f2 : Int} {f3 : Int} {p : Addr} (h : X1 w0 W g f0 f1 f2 f3) (J8 : g ≠ p.block) (u : Value) : X1 w0 (W.setCell p u) g f0 f1 f2 f3 := by
 obtain ⟨G, hg⟩ := h
 exact ⟨P0 G J8 u, hg⟩
theorem D9 {W : World} {g : Nat} {f0 : ByteArray} {f1 : Int} {f2 : Int} {f3 : Int} (h : W.heap[g]? = some (.cells #[.string f0, .int .i64 f1, .int .i64 f2, .int .i64 f3] 86 (0, 0))) : W.cell? ⟨g, 0, none⟩ = some (.string f0) := (G0 h 0).trans rfl
theorem X1.set_0 {w0 W : World} {g : Nat} {f0 : ByteArray} {f1 : Int} {f2 : Int} {f3 : Int} (h : X1 w0 W g f0 f1 f2 f3) (x : ByteArray) : X1 w0 (W.setCell ⟨g, 0, none⟩ (.string x)) g x f1 f2 f3 := by
 obtain ⟨G, hg⟩ := h
 exact ⟨by simpa using DB G 0 (.string x), hg⟩
theorem e9 {W : World} {g : Nat} {f0 : ByteArray} {f1 : Int} {f2 : Int} {f3 : Int} (h : W.heap[g]? = some (.cells #[.string f0, .int .i64 f1, .int .i64 f2, .int .i64 f3] 86 (0, 0))) : W.cell? ⟨g, 1, none⟩ = some (.int .i64 f1) := (G0 h 1).trans rfl
theorem X1.set_1 {w0 W : World} {g : Nat} {f0 : ByteArray} {f1 : Int} {f2 : Int} {f3 : Int} (h : X1 w0 W g f0 f1 f2 f3) (x : Int) : X1 w0 (W.setCell ⟨g, 1, none⟩ (.int .i64 x)) g f0 x f2 f3 := by
 obtain ⟨G, hg⟩ := h
 exact ⟨by simpa using DB G 1 (.int .i64 x), hg⟩
theorem E9 {W : World} {g : Nat} {f0 : ByteArray} {f1 : Int} {f2 : Int} {f3 : Int} (h : W.heap[g]? = some (.cells #[.string f0, .int .i64 f1, .int .i64 f2, .int .i64 f3] 86 (0, 0))) : W.cell? ⟨g, 2, none⟩ = some (.int .i64 f2) := (G0 h 2).trans rfl
theorem X1.set_2 {w0 W : World} {g : Nat} {f0 : ByteArray} {f1 : Int} {f2 : Int} {f3 : Int} (h : X1 w0 W g f0 f1 f2 f3) (x : Int) : X1 w0 (W.setCell ⟨g, 2, none⟩ (.int .i64 x)) g f0 f1 x f3 := by
 obtain ⟨G, hg⟩ := h
 exact ⟨by simpa using DB G 2 (.int .i64 x), hg⟩
theorem g9 {W : World} {g : Nat} {f0 : ByteArray} {f1 : Int} {f2 : Int} {f3 : Int} (h : W.heap[g]? = some (.cells #[.string f0, .int .i64 f1, .int .i64 f2, .int .i64 f3] 86 (0, 0))) : W.cell? ⟨g, 3, none⟩ = some (.int .i64 f3) := (G0 h 3).trans rfl
theorem X1.set_3 {w0 W : World} {g : Nat} {f0 : ByteArray} {f1 : Int} {f2 : Int} {f3 : Int} (h : X1 w0 W g f0 f1 f2 f3) (x : Int) : X1 w0 (W.setCell ⟨g, 3, none⟩ (.int .i64 x)) g f0 f1 f2 x := by
 obtain ⟨G, hg⟩ := h
 exact ⟨by simpa using DB G 3 (.int .i64 x), hg⟩
theorem X1.new (w0 W : World) (f0 : ByteArray) (f1 : Int) (f2 : Int) (f3 : Int) (hB : Below w0.heap.size w0 W) : X1 w0 (W.alloc (.cells #[.string f0, .int .i64 f1, .int .i64 f2, .int .i64 f3] 86)) W.heap.size f0 f1 f2 f3 := ⟨by simpa using heap_alloc_new W _, hB.size⟩
def S9.f (Y1 : ByteArray) (U1 : Int) (V3 : Int) (z3 : Int) (a1 : Int) : Option (ByteArray × Int × Int × Int) := if z3 = 0 then (some (Y1, U1, V3, a1)) else (some (Y1, U1, V3, z3))
set_option maxHeartbeats 8000000 in
set_option maxRecDepth 100000 in
theorem S9.calls (g : Nat) (Y1 : ByteArray) (U1 : Int) (V3 : Int) (z3 : Int) (a1 : Int) (r1 : ByteArray) (r2 : Int) (r3 : Int) (r4 : Int) (w0 w : World) (hI : X1 w0 w g Y1 U1 V3 z3) (hB : Below w0.heap.size w0 w) (h : S9.f Y1 U1 V3 z3 a1 = some (r1, r2, r3, r4)) :
 Calls Try.prog 77 #[.pointer (some ⟨g, 0, none⟩), .int .i64 a1] w fun e w' => e = .returned (.tuple #[]) ∧ X1 w0 w' g r1 r2 r3 r4 ∧ Below w0.heap.size w0 w' ∧ F1 w w' g none := by
 have Q1 := am hI; have HK := am (F1.refl w g none); have HL := am hB.size; clear hI; have VG := am hB.size; have I := am hB; clear hB; have H := h; unfold S9.f at H; clear h; by_cases c3 : z3 = 0; rotate_left
 ·rw [if_neg c3] at H; have S8 : (z3 == 0) = false := beq_eq_false_iff_ne.mpr c3; have qD : (z3 != 0) = true := bne_iff_ne.mpr c3; simp only [Option.some.injEq, Prod.mk.injEq] at H; obtain ⟨rfl, rfl, rfl, rfl⟩ := H; obtain ⟨b9, vN⟩ := Q1.out; have wL := D9 b9; have EM := e9 b9; have sM := E9 b9; have WP := g9 b9; have LL := Y0 b9 0; have BM := Y0 b9 1; have lM := Y0 b9 2; have FQ := Y0 b9 3; clear b9 vN; go_enter Try.func77, Try.ntmps77; go_wp2
  first | go_end0 | ((try simp only [Exit.inBlock, Exit.then]); refine bodyPost_ret (results_none rfl _ _ _) rfl ?_)
  exact ⟨L_, PA, by repeat (first | (with_reducible first | exact I.out | apply I6 | apply q5 | apply G6 | refine i4 ?_ (X1.ge Q1.out)) | exact I.out), JA⟩
 rw [if_pos c3] at H; have S8 : (z3 == 0) = true := beq_iff_eq.mpr c3; have qD : (z3 != 0) = false := bne_eq_false_iff_eq.mpr c3; clear c3; simp only [Option.some.injEq, Prod.mk.injEq] at H; obtain ⟨rfl, rfl, rfl, rfl⟩ := H; obtain ⟨wK, bi8⟩ := Q1.out; have aT := D9 wK; have yT := e9 wK; have vS := E9 wK; have ad7 := g9 wK; have BU := Y0 wK 0; have GS := Y0 wK 1; have RT := Y0 wK 2; have Lp := Y0 wK 3; clear wK bi8; go_enter Try.func77, Try.ntmps77; go_wp2
 first | go_end0 | ((try simp only [Exit.inBlock, Exit.then]); refine bodyPost_ret (results_none rfl _ _ _) rfl ?_)
 exact ⟨L_, PA, by repeat (first | (with_reducible first | exact I.out | apply I6 | apply q5 | apply G6 | refine i4 ?_ (X1.ge Q1.out)) | exact I.out), JA⟩
mutual
def O7.j0 : Nat → ByteArray → Int → Bool → Option (Int × Int × Int)
 | 0, _, _, _ => none
 | k + 1, x0, x1, dJ => if dJ = true then (some (0, 0, 2)) else (O7.l0 k x0 x1 0 0)
def O7.l0 : Nat → ByteArray → Int → Int → Int → Option (Int × Int × Int)
 | 0, _, _, _, _ => none
 | k + 1, x0, x1, x7, sK => if sK < 4 then (if (wrap64 (x1 + sK)) ≥ (x0.size : Int) then (some (0, 0, 152)) else (if 0 ≤ (wrap64 (x1 + sK)) then (if (wrap64 (x1 + sK)) < (x0.size : Int) then (if (wrap64 (bt x0 (wrap64 (x1 + sK)))) < 128 then (some (wrap64 ((wrap64 (x7 * 128)) + (Int.tmod (wrap64 (bt x0 (wrap64 (x1 + sK)))) 128)), wrap64 ((wrap64 (x1 + sK)) + 1), 0)) else (O7.l0 k x0 x1 (wrap64 ((wrap64 (x7 * 128)) + (Int.tmod (wrap64 (bt x0 (wrap64 (x1 + sK)))) 128))) (wrap64 (sK + 1)))) else (none)) else (none))) else (some (0, 0, 150))
end
def O7.f (k : Nat) (a0 : ByteArray) (a1 : Int) : Option (Int × Int × Int) := if a1 < 0 then (O7.j0 k a0 a1 true) else (O7.j0 k a0 a1 (decide (a1 > (a0.size : Int))))
theorem O7.mono_l : ∀ k, (∀ y0 y1 y2, F0 (O7.j0 k y0 y1 y2) (O7.j0 (k + 1) y0 y1 y2)) ∧ (∀ y0 y1 y2 y3, F0 (O7.l0 k y0 y1 y2 y3) (O7.l0 (k + 1) y0 y1 y2 y3))
 | 0 => ⟨fun _ _ _ r h => by simp [O7.j0] at h, fun _ _ _ _ r h => by simp [O7.l0] at h⟩
 | k + 1 => by
  obtain ⟨O2, Z5⟩ := O7.mono_l k
  refine ⟨?_, ?_⟩
  ·intro y0 y1 y2
   unfold O7.j0
   repeat' first
   | (with_reducible exact O2 _ _ _)
   | (with_reducible exact Z5 _ _ _ _)
   | (with_reducible exact F0.refl _)
   | (with_reducible exact F0.none _)
   | (with_reducible refine F0.ite ?_ ?_)
   | (with_reducible refine F0.bind ?_ (fun _ => ?_))
   | exact O2 _ _ _
   | exact Z5 _ _ _ _
   | exact F0.none _
   | refine F0.ite ?_ ?_
   | refine F0.bind ?_ (fun _ => ?_)
  ·intro y0 y1 y2 y3
   unfold O7.l0
   repeat' first
   | (with_reducible exact O2 _ _ _)
   | (with_reducible exact Z5 _ _ _ _)
   | (with_reducible exact F0.refl _)
   | (with_reducible exact F0.none _)
   | (with_reducible refine F0.ite ?_ ?_)
   | (with_reducible refine F0.bind ?_ (fun _ => ?_))
   | exact O2 _ _ _
   | exact Z5 _ _ _ _
   | exact F0.none _
   | refine F0.ite ?_ ?_
   | refine F0.bind ?_ (fun _ => ?_)
theorem O7.mono : ∀ a0 a1 k, F0 (O7.f k a0 a1) (O7.f (k + 1) a0 a1) := by
 intro a0 a1 k
 obtain ⟨O2, Z5⟩ := O7.mono_l k
 unfold O7.f
 repeat' first
  | (with_reducible exact O2 _ _ _)
  | (with_reducible exact Z5 _ _ _ _)
  | (with_reducible exact F0.refl _)
  | (with_reducible exact F0.none _)
  | (with_reducible refine F0.ite ?_ ?_)
  | (with_reducible refine F0.bind ?_ (fun _ => ?_))
  | exact O2 _ _ _
  | exact Z5 _ _ _ _
  | exact F0.none _
  | refine F0.ite ?_ ?_
  | refine F0.bind ?_ (fun _ => ?_)
set_option maxHeartbeats 8000000 in
set_option maxRecDepth 100000 in
theorem O7.calls (k : Nat) (a0 : ByteArray) (a1 : Int) (r1 : Int) (r2 : Int) (r3 : Int) (w : World) (h : O7.f k a0 a1 = some (r1, r2, r3)) :
 Calls Try.prog 76 #[.string a0, .int .i64 a1] w fun e w' => e = .returned (.tuple #[.int .i64 r1, .int .i64 r2, .int .i64 r3]) ∧ E_ w w' := by
 have H := h; unfold O7.f at H; clear h; have tI := am H; clear H; go_enter Try.func76, Try.ntmps76; go_upto_region 1 with (fail)
 go_cut [17] (fun cT wc => ∃ (kq : Nat) (bK : Bool), cT = .bool bK ∧ Aside0 (O7.j0 kq a0 a1 bK = some (r1, r2, r3)) ∧ Aside0 (kq ≤ k) ∧ E_ w wc)
 case first =>
  have H := tI.out; clear tI; by_cases c4 : a1 < 0
  ·rw [if_pos c4] at H; have T7 : decide (a1 < 0) = true := decide_eq_true c4; clear c4; (first | rw [T7] | (simp only [B3, M3]; rw [T7]) | skip); have H' := am H; clear H; go_wp2; go_meet
   case rel => exact ⟨_, (true), o6, H', ⟨EZ⟩, F5⟩
  rw [if_neg c4] at H; have T7 : decide (a1 < 0) = false := decide_eq_false c4; clear c4; (first | rw [T7] | (simp only [B3, M3]; rw [T7]) | skip); have H' := am H; clear H; go_wp2; go_meet
  case rel => exact ⟨_, (decide (a1 > (a0.size : Int))), o6, H', ⟨EZ⟩, F5⟩
 case rest =>
  clear tI; try clear p2
  try clear c4
  try clear T7
  obtain ⟨kq, bK, rfl, HA, qJ, ⟨mc2, rfl⟩⟩ := hcut; cases kq with
  | zero => exact absurd HA.out (by simp [O7.j0])
  | succ vI =>
   have H := HA.out; clear HA; simp only [O7.j0] at H; by_cases c5 : bK = true
   ·subst c5; have H1 : (some (0, 0, 2)) = some (r1, r2, r3) := by rw [if_pos rfl] at H; exact H
    clear H; have H := H1; clear H1; simp only [Option.some.injEq, Prod.mk.injEq] at H; obtain ⟨rfl, rfl, rfl⟩ := H; go_wp2; go_ret3; exact ⟨o6, F5⟩
   replace c5 := Bool.eq_false_iff.mpr c5; subst c5; have H1 : (O7.l0 vI a0 a1 0 0) = some (r1, r2, r3) := by rw [if_neg (show ¬ (false = true) by decide)] at H; exact H
   clear H; have H := H1; clear H1; have H' := am H; clear H; go_wp2; go_loopg [7, 18] vI (fun kq v7 v18 w' => ∃ (sI : Int) (IG : Int), v7 = .int .i64 sI ∧ v18 = .int .i64 IG ∧ Aside0 (O7.l0 kq a0 a1 sI IG = some (r1, r2, r3)) ∧ Aside0 (kq ≤ vI) ∧ E_ w w')
   case atStart => exact ⟨(0), (0), o6, o6, H', ⟨Nat.le_refl _⟩, F5⟩
   case round =>
    clear H'; try clear c2
    try clear p2
    try clear c4
    try clear T7
    try clear c5
    try clear p2
    obtain ⟨sI, IG, rfl, rfl, HA, TA, ⟨m2, rfl⟩⟩ := hrel; cases gk with
    | zero => exact absurd HA.out (by simp [O7.l0])
    | succ k2 =>
     have H := HA.out; clear HA; simp only [O7.l0] at H; by_cases c6 : IG < 4; rotate_left
     ·rw [if_neg c6] at H; have cC : decide (IG < 4) = false := decide_eq_false c6; clear c6; simp only [Option.some.injEq, Prod.mk.injEq] at H; obtain ⟨rfl, rfl, rfl⟩ := H; go_wp2; go_ret3; exact ⟨o6, F5⟩
     rw [if_pos c6] at H; have cC : decide (IG < 4) = true := decide_eq_true c6; clear c6; by_cases c7 : (wrap64 (a1 + IG)) ≥ (a0.size : Int)
     ·rw [if_pos c7] at H; have lC : decide ((a0.size : Int) ≤ (wrap64 (a1 + IG))) = true := decide_eq_true c7; clear c7; simp only [Option.some.injEq, Prod.mk.injEq] at H; obtain ⟨rfl, rfl, rfl⟩ := H; go_wp2; go_ret3; exact ⟨o6, F5⟩
     rw [if_neg c7] at H; have lC : decide ((a0.size : Int) ≤ (wrap64 (a1 + IG))) = false := decide_eq_false c7; clear c7; obtain ⟨TC, XP⟩ : ∃ j_ : Int, (wrap64 (a1 + IG)) = j_ := ⟨_, rfl⟩
     replace H : (if 0 ≤ (TC) then (if (TC) < (a0.size : Int) then (if (wrap64 (bt a0 (TC))) < 128 then (some (wrap64 ((wrap64 (sI * 128)) + (Int.tmod (wrap64 (bt a0 (TC))) 128)), wrap64 ((TC) + 1), 0)) else (O7.l0 k2 a0 a1 (wrap64 ((wrap64 (sI * 128)) + (Int.tmod (wrap64 (bt a0 (TC))) 128))) (wrap64 (IG + 1)))) else (none)) else (none)) = some (r1, r2, r3) := by first | (rw [XP] at H; exact H) | (simp only [XP] at H ⊢; exact H)
     (try rw [XP] at lC); have ec9 : (IntKind.i64.wrap (a1 + IG)) = TC := (B3 _).trans XP; by_cases c9 : 0 ≤ (TC); rotate_left
     ·rw [if_neg c9] at H; exact absurd H (by simp)
     rw [if_pos c9] at H; have xH : decide (0 ≤ (TC)) = true := decide_eq_true c9; clear c9; by_cases c10 : (TC) < (a0.size : Int); rotate_left
     ·rw [if_neg c10] at H; exact absurd H (by simp)
     rw [if_pos c10] at H; have hG : decide ((TC) < (a0.size : Int)) = true := decide_eq_true c10; clear c10; by_cases O6 : (wrap64 (bt a0 (TC))) < 128
     ·rw [if_pos O6] at H; have JI : decide ((wrap64 (bt a0 (TC))) < 128) = true := decide_eq_true O6; clear O6; simp only [Option.some.injEq, Prod.mk.injEq] at H; obtain ⟨rfl, rfl, rfl⟩ := H; have lT : 0 ≤ ((TC) : Int) := of_decide_eq_true p7; have yU : (TC) < (a0.size : Int) := of_decide_eq_true p7; have bk3 := K9 a0 (TC); replace lT := eq_true lT; replace yU := eq_true yU; go_wp2; go_ret3; exact ⟨by first | rfl | (simp; done) | (simp only [← XP] <;> (first | rfl | simp)) | (simp [*]; done), F5⟩
     rw [if_neg O6] at H; have JI : decide ((wrap64 (bt a0 (TC))) < 128) = false := decide_eq_false O6; clear O6; have H' := am H; clear H; have lT : 0 ≤ ((TC) : Int) := of_decide_eq_true p7; have yU : (TC) < (a0.size : Int) := of_decide_eq_true p7; have bk3 := K9 a0 (TC); replace lT := eq_true lT; replace yU := eq_true yU; go_wp2; go_roundg k2
     case measure => have := qJ.out; have := TA.out; omega
     case rel => exact ⟨(wrap64 ((wrap64 (sI * 128)) + (Int.tmod (wrap64 (bt a0 (TC))) 128))), (wrap64 (IG + 1)), (by first | rfl | (simp; done) | (simp only [← XP] <;> (first | rfl | simp)) | (simp [*]; done)), o6, H', ⟨by have := qJ.out; have := TA.out; omega⟩, F5⟩
def aA.f (k : Nat) (Y1 : ByteArray) (U1 : Int) (V3 : Int) (z3 : Int) : Option (Int × ByteArray × Int × Int × Int) := if z3 = 0 then ((O7.f k Y1 U1).bind fun O3 => (if O3.2.2 = 0 then (some (O3.1, Y1, O3.2.1, V3, z3)) else ((S9.f Y1 U1 V3 z3 O3.2.2).bind fun t_ => (some (0, t_.1, t_.2.1, t_.2.2.1, t_.2.2.2))))) else (some (0, Y1, U1, V3, z3))
theorem aA.mono : ∀ a0 a1 a2 a3 k, F0 (aA.f k a0 a1 a2 a3) (aA.f (k + 1) a0 a1 a2 a3) := by
 intro a0 a1 a2 a3 k
 unfold aA.f
 repeat' first
  | (with_reducible exact O7.mono _ _ _)
  | (with_reducible exact F0.refl _)
  | (with_reducible exact F0.none _)
  | (with_reducible refine F0.ite ?_ ?_)
  | (with_reducible refine F0.bind ?_ (fun _ => ?_))
  | exact O7.mono _ _ _
  | exact F0.none _
  | refine F0.ite ?_ ?_
  | refine F0.bind ?_ (fun _ => ?_)
set_option maxHeartbeats 8000000 in
set_option maxRecDepth 100000 in
theorem aA.calls (k : Nat) (g : Nat) (Y1 : ByteArray) (U1 : Int) (V3 : Int) (z3 : Int) (r1 : Int) (r2 : ByteArray) (r3 : Int) (r4 : Int) (r5 : Int) (w0 w : World) (hI : X1 w0 w g Y1 U1 V3 z3) (hB : Below w0.heap.size w0 w) (h : aA.f k Y1 U1 V3 z3 = some (r1, r2, r3, r4, r5)) :
 Calls Try.prog 70 #[.pointer (some ⟨g, 0, none⟩)] w fun e w' => e = .returned (.int .i64 r1) ∧ X1 w0 w' g r2 r3 r4 r5 ∧ Below w0.heap.size w0 w' ∧ F1 w w' g none := by
 have Q1 := am hI; have HK := am (F1.refl w g none); have HL := am hB.size; clear hI; have VG := am hB.size; have I := am hB; clear hB; have H := h; unfold aA.f at H; clear h; by_cases c2 : z3 = 0; rotate_left
 ·rw [if_neg c2] at H; have G9 : (z3 == 0) = false := beq_eq_false_iff_ne.mpr c2; have oE : (z3 != 0) = true := bne_iff_ne.mpr c2; simp only [Option.some.injEq, Prod.mk.injEq] at H; obtain ⟨rfl, rfl, rfl, rfl, rfl⟩ := H; obtain ⟨XK, bm2⟩ := Q1.out; have mJ := D9 XK; have IJ := e9 XK; have CJ := E9 XK; have lW := g9 XK; have GJ := Y0 XK 0; have zJ := Y0 XK 1; have DJ := Y0 XK 2; have hY := Y0 XK 3; clear XK bm2; go_enter Try.func70, Try.ntmps70; go_wp2; repeat (go_quiet (fail); try go_wp2)
  go_ret; exact ⟨L_, PA, by repeat (first | (with_reducible first | exact I.out | apply I6 | apply q5 | apply G6 | refine i4 ?_ (X1.ge Q1.out)) | exact I.out), JA⟩
 rw [if_pos c2] at H; have G9 : (z3 == 0) = true := beq_iff_eq.mpr c2; have oE : (z3 != 0) = false := bne_eq_false_iff_eq.mpr c2; clear c2; replace H := L2 H; obtain ⟨⟨t101, t102, t103⟩, Q_, H⟩ := H; try dsimp -simprocs only at H
 have A3 := am Q_; clear Q_; by_cases c4 : t103 = 0
 ·rw [if_pos c4] at H; have T7 : (t103 == 0) = true := beq_iff_eq.mpr c4; have RE : (t103 != 0) = false := bne_eq_false_iff_eq.mpr c4; clear c4; simp only [Option.some.injEq, Prod.mk.injEq] at H; obtain ⟨rfl, rfl, rfl, rfl, rfl⟩ := H; obtain ⟨b9, vN⟩ := Q1.out; have wL := D9 b9; have EM := e9 b9; have sM := E9 b9; have WP := g9 b9; have LL := Y0 b9 0; have BM := Y0 b9 1; have lM := Y0 b9 2; have FQ := Y0 b9 3; clear b9 vN; go_enter Try.func70, Try.ntmps70; go_wp2_with ((go_at_call 76; (with_reducible refine (O7.calls k Y1 U1 t101 t102 t103 _ A3.out).mono ?_); rintro e w' ⟨rfl, ⟨nd, rfl⟩⟩; (try first | exact ⟨rfl, _, World.drewN_drewN _ _ _⟩ | exact ⟨rfl, _, Eq.trans (World.drewN_drewN _ _ _) (congrArg (World.drewN _) (Nat.add_assoc _ _ _))⟩))); repeat (go_quiet ((go_at_call 76; (with_reducible refine (O7.calls k Y1 U1 t101 t102 t103 _ A3.out).mono ?_); rintro e w' ⟨rfl, ⟨nd, rfl⟩⟩; (try first | exact ⟨rfl, _, World.drewN_drewN _ _ _⟩ | exact ⟨rfl, _, Eq.trans (World.drewN_drewN _ _ _) (congrArg (World.drewN _) (Nat.add_assoc _ _ _))⟩))); try go_wp2_with ((go_at_call 76; (with_reducible refine (O7.calls k Y1 U1 t101 t102 t103 _ A3.out).mono ?_); rintro e w' ⟨rfl, ⟨nd, rfl⟩⟩; (try first | exact ⟨rfl, _, World.drewN_drewN _ _ _⟩ | exact ⟨rfl, _, Eq.trans (World.drewN_drewN _ _ _) (congrArg (World.drewN _) (Nat.add_assoc _ _ _))⟩))))
  go_ret; exact ⟨L_, PA, by repeat (first | (with_reducible first | exact I.out | apply I6 | apply q5 | apply G6 | refine i4 ?_ (X1.ge Q1.out)) | exact I.out), JA⟩
 rw [if_neg c4] at H; have T7 : (t103 == 0) = false := beq_eq_false_iff_ne.mpr c4; have RE : (t103 != 0) = true := bne_iff_ne.mpr c4; replace H := L2 H; obtain ⟨⟨t104, t105, t106, t107⟩, aG, H⟩ := H; try dsimp -simprocs only at H
 have A6 := am aG; clear aG; simp only [Option.some.injEq, Prod.mk.injEq] at H; obtain ⟨rfl, rfl, rfl, rfl, rfl⟩ := H; obtain ⟨Y8, vO⟩ := Q1.out; have aK := D9 Y8; have VK := e9 Y8; have pK := E9 Y8; have oM := g9 Y8; have kL := Y0 Y8 0; have QK := Y0 Y8 1; have YK := Y0 Y8 2; have bM := Y0 Y8 3; clear Y8 vO; go_enter Try.func70, Try.ntmps70; go_wp2_with (first | (go_at_call 76; (with_reducible refine (O7.calls k Y1 U1 t101 t102 t103 _ A3.out).mono ?_); rintro e w' ⟨rfl, ⟨nd, rfl⟩⟩; (try first | exact ⟨rfl, _, World.drewN_drewN _ _ _⟩ | exact ⟨rfl, _, Eq.trans (World.drewN_drewN _ _ _) (congrArg (World.drewN _) (Nat.add_assoc _ _ _))⟩)) | (go_at_call 77; (with_reducible refine (S9.calls g Y1 U1 V3 z3 t103 t104 t105 t106 t107 w0 _ ?side1 ?side2 A6.out).mono ?_); (case side1 => exact PA); (case side2 => repeat (first | (with_reducible first | exact I.out | apply I6 | apply q5 | apply G6 | refine i4 ?_ (X1.ge Q1.out)) | exact I.out)); rintro e w8 ⟨rfl, hi, G, X⟩; replace HK := am (F1.trans JA X (.inl rfl)); replace I := am (G); replace Q1 := am (hi); (try clear G); (try clear C5); (try clear X); (try clear hi))); repeat (go_quiet (first | (go_at_call 76; (with_reducible refine (O7.calls k Y1 U1 t101 t102 t103 _ A3.out).mono ?_); rintro e w' ⟨rfl, ⟨nd, rfl⟩⟩; (try first | exact ⟨rfl, _, World.drewN_drewN _ _ _⟩ | exact ⟨rfl, _, Eq.trans (World.drewN_drewN _ _ _) (congrArg (World.drewN _) (Nat.add_assoc _ _ _))⟩)) | (go_at_call 77; (with_reducible refine (S9.calls g Y1 U1 V3 z3 t103 t104 t105 t106 t107 w0 _ ?side1 ?side2 A6.out).mono ?_); (case side1 => exact PA); (case side2 => repeat (first | (with_reducible first | exact I.out | apply I6 | apply q5 | apply G6 | refine i4 ?_ (X1.ge Q1.out)) | exact I.out)); rintro e w8 ⟨rfl, hi, G, X⟩; replace HK := am (F1.trans JA X (.inl rfl)); replace I := am (G); replace Q1 := am (hi); (try clear G); (try clear C5); (try clear X); (try clear hi))); try go_wp2_with (first | (go_at_call 76; (with_reducible refine (O7.calls k Y1 U1 t101 t102 t103 _ A3.out).mono ?_); rintro e w' ⟨rfl, ⟨nd, rfl⟩⟩; (try first | exact ⟨rfl, _, World.drewN_drewN _ _ _⟩ | exact ⟨rfl, _, Eq.trans (World.drewN_drewN _ _ _) (congrArg (World.drewN _) (Nat.add_assoc _ _ _))⟩)) | (go_at_call 77; (with_reducible refine (S9.calls g Y1 U1 V3 z3 t103 t104 t105 t106 t107 w0 _ ?side1 ?side2 A6.out).mono ?_); (case side1 => exact PA); (case side2 => repeat (first | (with_reducible first | exact I.out | apply I6 | apply q5 | apply G6 | refine i4 ?_ (X1.ge Q1.out)) | exact I.out)); rintro e w8 ⟨rfl, hi, G, X⟩; replace HK := am (F1.trans JA X (.inl rfl)); replace I := am (G); replace Q1 := am (hi); (try clear G); (try clear C5); (try clear X); (try clear hi))))
 go_ret; exact ⟨L_, PA, by repeat (first | (with_reducible first | exact I.out | apply I6 | apply q5 | apply G6 | refine i4 ?_ (X1.ge Q1.out)) | exact I.out), JA⟩
def PE.f (Y1 : ByteArray) (U1 : Int) (V3 : Int) (z3 : Int) : Option (Int × ByteArray × Int × Int × Int) := if z3 = 0 then (if U1 ≥ (Y1.size : Int) then ((S9.f Y1 U1 V3 z3 152).bind fun O3 => (some (0, O3.1, O3.2.1, O3.2.2.1, O3.2.2.2))) else (if 0 ≤ U1 then (if U1 < (Y1.size : Int) then (if (wrap64 (bt Y1 U1)) < 128 then (if V3 = 0 then ((S9.f Y1 U1 V3 z3 151).bind fun mE => (some (mE.2.2.1, mE.1, mE.2.1, mE.2.2.1, mE.2.2.2))) else (some (V3, Y1, U1, V3, z3))) else (if (wrap64 (bt Y1 U1)) > 240 then (if (wrap64 (bt Y1 U1)) = 247 then (some (wrap64 (bt Y1 U1), Y1, wrap64 (U1 + 1), V3, z3)) else (if (wrap64 (bt Y1 U1)) = 255 then (some (wrap64 (bt Y1 U1), Y1, wrap64 (U1 + 1), V3, z3)) else ((S9.f Y1 U1 V3 z3 151).bind fun OC => (some (wrap64 (bt Y1 U1), OC.1, wrap64 (OC.2.1 + 1), OC.2.2.1, OC.2.2.2))))) else (some (wrap64 (bt Y1 U1), Y1, wrap64 (U1 + 1), V3, z3)))) else (none)) else (none))) else (some (0, Y1, U1, V3, z3))
set_option maxHeartbeats 8000000 in
set_option maxRecDepth 100000 in
theorem PE.calls (g : Nat) (Y1 : ByteArray) (U1 : Int) (V3 : Int) (z3 : Int) (r1 : Int) (r2 : ByteArray) (r3 : Int) (r4 : Int) (r5 : Int) (w0 w : World) (hI : X1 w0 w g Y1 U1 V3 z3) (hB : Below w0.heap.size w0 w) (h : PE.f Y1 U1 V3 z3 = some (r1, r2, r3, r4, r5)) :
 Calls Try.prog 71 #[.pointer (some ⟨g, 0, none⟩)] w fun e w' => e = .returned (.int .i64 r1) ∧ X1 w0 w' g r2 r3 r4 r5 ∧ Below w0.heap.size w0 w' ∧ F1 w w' g none := by
 have Q1 := am hI; have HK := am (F1.refl w g none); have HL := am hB.size; clear hI; have VG := am hB.size; have I := am hB; clear hB; have H := h; unfold PE.f at H; clear h; by_cases c2 : z3 = 0; rotate_left
 ·rw [if_neg c2] at H; have G9 : (z3 == 0) = false := beq_eq_false_iff_ne.mpr c2; have oE : (z3 != 0) = true := bne_iff_ne.mpr c2; simp only [Option.some.injEq, Prod.mk.injEq] at H; obtain ⟨rfl, rfl, rfl, rfl, rfl⟩ := H; obtain ⟨nK, be5⟩ := Q1.out; have Ja := D9 nK; have De := e9 nK; have Ug := E9 nK; have Dz := g9 nK; have Dd := Y0 nK 0; have Cj := Y0 nK 1; have Vi := Y0 nK 2; have Yz := Y0 nK 3; clear nK be5; go_enter Try.func71, Try.ntmps71; go_wp2; repeat (go_quiet (fail); try go_wp2)
  go_ret; exact ⟨by rfl, CB, BB, dB⟩
 rw [if_pos c2] at H; have G9 : (z3 == 0) = true := beq_iff_eq.mpr c2; have oE : (z3 != 0) = false := bne_eq_false_iff_eq.mpr c2; clear c2; by_cases c3 : U1 ≥ (Y1.size : Int)
 ·rw [if_pos c3] at H; have S8 : decide ((Y1.size : Int) ≤ U1) = true := decide_eq_true c3; clear c3; replace H := L2 H; obtain ⟨⟨t101, t102, t103, t104⟩, mA, H⟩ := H; have A4 := am mA; clear mA; simp only [Option.some.injEq, Prod.mk.injEq] at H; obtain ⟨rfl, rfl, rfl, rfl, rfl⟩ := H; obtain ⟨b9, vN⟩ := Q1.out; have wL := D9 b9; have EM := e9 b9; have sM := E9 b9; have WP := g9 b9; have LL := Y0 b9 0; have BM := Y0 b9 1; have lM := Y0 b9 2; have FQ := Y0 b9 3; clear b9 vN; go_enter Try.func71, Try.ntmps71; go_wp2_with ((go_at_call 77; (with_reducible refine (S9.calls g Y1 U1 V3 z3 152 t101 t102 t103 t104 w0 _ ?side1 ?side2 A4.out).mono ?_); (case side1 => exact PA); (case side2 => repeat (first | (with_reducible first | exact I.out | apply I6 | apply q5 | apply G6 | refine i4 ?_ (X1.ge Q1.out)) | exact I.out)); rintro e w6 ⟨rfl, hi, G, X⟩; replace HK := am (F1.trans JA X (.inl rfl)); replace I := am (G); replace Q1 := am (hi); )); repeat (go_quiet ((go_at_call 77; (with_reducible refine (S9.calls g Y1 U1 V3 z3 152 t101 t102 t103 t104 w0 _ ?side1 ?side2 A4.out).mono ?_); (case side1 => exact PA); (case side2 => repeat (first | (with_reducible first | exact I.out | apply I6 | apply q5 | apply G6 | refine i4 ?_ (X1.ge Q1.out)) | exact I.out)); rintro e w6 ⟨rfl, hi, G, X⟩; replace HK := am (F1.trans JA X (.inl rfl)); replace I := am (G); replace Q1 := am (hi); )); try go_wp2_with ((go_at_call 77; (with_reducible refine (S9.calls g Y1 U1 V3 z3 152 t101 t102 t103 t104 w0 _ ?side1 ?side2 A4.out).mono ?_); (case side1 => exact jP); (case side2 => exact dP); rintro e w6 ⟨rfl, hi, G, X⟩; replace HK := am (F1.trans bP X (.inl rfl)); replace I := am (G); replace Q1 := am (hi); )))
  go_ret; exact ⟨by rfl, CB, BB, dB⟩
 rw [if_neg c3] at H; have S8 : decide ((Y1.size : Int) ≤ U1) = false := decide_eq_false c3; clear c3; by_cases c7 : 0 ≤ U1; rotate_left
 ·rw [if_neg c7] at H; exact absurd H (by simp)
 rw [if_pos c7] at H; have lC : decide (0 ≤ U1) = true := decide_eq_true c7; clear c7; by_cases c8 : U1 < (Y1.size : Int); rotate_left
 ·rw [if_neg c8] at H; exact absurd H (by simp)
 rw [if_pos c8] at H; have JG : decide (U1 < (Y1.size : Int)) = true := decide_eq_true c8; clear c8; by_cases c10 : (wrap64 (bt Y1 U1)) < 128
 ·rw [if_pos c10] at H; have hG : decide ((wrap64 (bt Y1 U1)) < 128) = true := decide_eq_true c10; clear c10; by_cases Y7 : V3 = 0; rotate_left
  ·rw [if_neg Y7] at H; have jL : (V3 == 0) = false := beq_eq_false_iff_ne.mpr Y7; have Zv : (V3 != 0) = true := bne_iff_ne.mpr Y7; simp only [Option.some.injEq, Prod.mk.injEq] at H; obtain ⟨rfl, rfl, rfl, rfl, rfl⟩ := H; obtain ⟨uK, cc3⟩ := Q1.out; have dL := D9 uK; have oK := e9 uK; have IK := E9 uK; have WT := g9 uK; have AK := Y0 uK 0; have mL := Y0 uK 1; have dK := Y0 uK 2; have SR := Y0 uK 3; clear uK cc3; have p9 : 0 ≤ (U1 : Int) := of_decide_eq_true R1; have q9 : U1 < (Y1.size : Int) := of_decide_eq_true R1; have nL := K9 Y1 U1; replace p9 := eq_true p9; replace q9 := eq_true q9; go_enter Try.func71, Try.ntmps71; go_wp2; repeat (go_quiet (fail); try go_wp2)
   go_ret; exact ⟨by rfl, jP, dP, bP⟩
  rw [if_pos Y7] at H; have jL : (V3 == 0) = true := beq_iff_eq.mpr Y7; have Zv : (V3 != 0) = false := bne_eq_false_iff_eq.mpr Y7; clear Y7; replace H := L2 H; obtain ⟨⟨t105, t106, t107, t108⟩, xI, H⟩ := H; have QH := am xI; clear xI; simp only [Option.some.injEq, Prod.mk.injEq] at H; obtain ⟨rfl, rfl, rfl, rfl, rfl⟩ := H; obtain ⟨EK, ba6⟩ := Q1.out; have NQ := D9 EK; have sQ := e9 EK; have uQ := E9 EK; have Mf := g9 EK; have IP := Y0 EK 0; have ZP := Y0 EK 1; have GQ := Y0 EK 2; have Uh := Y0 EK 3; clear EK ba6; have p9 : 0 ≤ (U1 : Int) := of_decide_eq_true R1; have q9 : U1 < (Y1.size : Int) := of_decide_eq_true R1; have nL := K9 Y1 U1; replace p9 := eq_true p9; replace q9 := eq_true q9; go_enter Try.func71, Try.ntmps71; go_wp2_with ((go_at_call 77; (with_reducible refine (S9.calls g Y1 U1 V3 z3 151 t105 t106 t107 t108 w0 _ ?side1 ?side2 QH.out).mono ?_); (case side1 => exact PA); (case side2 => repeat (first | (with_reducible first | exact I.out | apply I6 | apply q5 | apply G6 | refine i4 ?_ (X1.ge Q1.out)) | exact I.out)); rintro e nA ⟨rfl, hi, G, X⟩; replace HK := am (F1.trans JA X (.inl rfl)); replace I := am (G); replace Q1 := am (hi); obtain ⟨a9, MO⟩ := Q1.out; have gM := D9 a9; have BL := e9 a9; have yL := E9 a9; have kQ := g9 a9; have MM := Y0 a9 0; have UL := Y0 a9 1; have vM := Y0 a9 2; have pQ := Y0 a9 3; clear a9 MO)); repeat (go_quiet ((go_at_call 77; (with_reducible refine (S9.calls g Y1 U1 V3 z3 151 t105 t106 t107 t108 w0 _ ?side1 ?side2 QH.out).mono ?_); (case side1 => exact PA); (case side2 => repeat (first | (with_reducible first | exact I.out | apply I6 | apply q5 | apply G6 | refine i4 ?_ (X1.ge Q1.out)) | exact I.out)); rintro e nA ⟨rfl, hi, G, X⟩; replace HK := am (F1.trans JA X (.inl rfl)); replace I := am (G); replace Q1 := am (hi); obtain ⟨a9, MO⟩ := Q1.out; have gM := D9 a9; have BL := e9 a9; have yL := E9 a9; have kQ := g9 a9; have MM := Y0 a9 0; have UL := Y0 a9 1; have vM := Y0 a9 2; have pQ := Y0 a9 3; clear a9 MO)); try go_wp2_with ((go_at_call 77; (with_reducible refine (S9.calls g Y1 U1 V3 z3 151 t105 t106 t107 t108 w0 _ ?side1 ?side2 QH.out).mono ?_); (case side1 => exact jP); (case side2 => exact dP); rintro e nA ⟨rfl, hi, G, X⟩; replace HK := am (F1.trans bP X (.inl rfl)); replace I := am (G); replace Q1 := am (hi); obtain ⟨a9, MO⟩ := Q1.out; have gM := D9 a9; have BL := e9 a9; have yL := E9 a9; have kQ := g9 a9; have MM := Y0 a9 0; have UL := Y0 a9 1; have vM := Y0 a9 2; have pQ := Y0 a9 3; clear a9 MO)))
  go_ret; exact ⟨by rfl, CB, BB, dB⟩
 rw [if_neg c10] at H; have hG : decide ((wrap64 (bt Y1 U1)) < 128) = false := decide_eq_false c10; clear c10; by_cases l7 : (wrap64 (bt Y1 U1)) > 240; rotate_left
 ·rw [if_neg l7] at H; have wH : decide (240 < (wrap64 (bt Y1 U1))) = false := decide_eq_false l7; clear l7; simp only [Option.some.injEq, Prod.mk.injEq] at H; obtain ⟨rfl, rfl, rfl, rfl, rfl⟩ := H; obtain ⟨iK, bn9⟩ := Q1.out; have vY := D9 iK; have RV := e9 iK; have mY := E9 iK; have Gk := g9 iK; have mX := Y0 iK 0; have rY := Y0 iK 1; have SV := Y0 iK 2; have Sc := Y0 iK 3; clear iK bn9; have p9 : 0 ≤ (U1 : Int) := of_decide_eq_true R1; have q9 : U1 < (Y1.size : Int) := of_decide_eq_true R1; have nL := K9 Y1 U1; replace p9 := eq_true p9; replace q9 := eq_true q9; go_enter Try.func71, Try.ntmps71; go_wp2; repeat (go_quiet (fail); try go_wp2)
  go_ret; exact ⟨by rfl, kV, by repeat ((with_reducible first | exact I.out | apply q5 | refine i4 ?_ (X1.ge Q1.out))), CV⟩
 rw [if_pos l7] at H; have wH : decide (240 < (wrap64 (bt Y1 U1))) = true := decide_eq_true l7; clear l7; by_cases M7 : (wrap64 (bt Y1 U1)) = 247
 ·rw [if_pos M7] at H; have xJ : ((wrap64 (bt Y1 U1)) == 247) = true := beq_iff_eq.mpr M7; have nW : ((wrap64 (bt Y1 U1)) != 247) = false := bne_eq_false_iff_eq.mpr M7; clear M7; simp only [Option.some.injEq, Prod.mk.injEq] at H; obtain ⟨rfl, rfl, rfl, rfl, rfl⟩ := H; obtain ⟨PK, bp6⟩ := Q1.out; have AP := D9 PK; have dQ := e9 PK; have KQ := E9 PK; have Lj := g9 PK; have VP := Y0 PK 0; have AQ := Y0 PK 1; have aQ := Y0 PK 2; have Yj := Y0 PK 3; clear PK bp6; have p9 : 0 ≤ (U1 : Int) := of_decide_eq_true R1; have q9 : U1 < (Y1.size : Int) := of_decide_eq_true R1; have nL := K9 Y1 U1; replace p9 := eq_true p9; replace q9 := eq_true q9; go_enter Try.func71, Try.ntmps71; go_wp2; repeat (go_quiet (fail); try go_wp2)
  go_ret; exact ⟨by rfl, kV, by repeat ((with_reducible first | exact I.out | apply q5 | refine i4 ?_ (X1.ge Q1.out))), CV⟩
 rw [if_neg M7] at H; have xJ : ((wrap64 (bt Y1 U1)) == 247) = false := beq_eq_false_iff_ne.mpr M7; have nW : ((wrap64 (bt Y1 U1)) != 247) = true := bne_iff_ne.mpr M7; by_cases K5 : (wrap64 (bt Y1 U1)) = 255
 ·rw [if_pos K5] at H; have qI : ((wrap64 (bt Y1 U1)) == 255) = true := beq_iff_eq.mpr K5; have qU : ((wrap64 (bt Y1 U1)) != 255) = false := bne_eq_false_iff_eq.mpr K5; clear K5; simp only [Option.some.injEq, Prod.mk.injEq] at H; obtain ⟨rfl, rfl, rfl, rfl, rfl⟩ := H; obtain ⟨SK, cd5⟩ := Q1.out; have IS := D9 SK; have KU := e9 SK; have ZS := E9 SK; have bi4 := g9 SK; have PT := Y0 SK 0; have fS := Y0 SK 1; have LS := Y0 SK 2; have by1 := Y0 SK 3; clear SK cd5; have p9 : 0 ≤ (U1 : Int) := of_decide_eq_true R1; have q9 : U1 < (Y1.size : Int) := of_decide_eq_true R1; have nL := K9 Y1 U1; replace p9 := eq_true p9; replace q9 := eq_true q9; go_enter Try.func71, Try.ntmps71; go_wp2; repeat (go_quiet (fail); try go_wp2)
  go_ret; exact ⟨by rfl, kV, by repeat ((with_reducible first | exact I.out | apply q5 | refine i4 ?_ (X1.ge Q1.out))), CV⟩
 rw [if_neg K5] at H; have qI : ((wrap64 (bt Y1 U1)) == 255) = false := beq_eq_false_iff_ne.mpr K5; have qU : ((wrap64 (bt Y1 U1)) != 255) = true := bne_iff_ne.mpr K5; replace H := L2 H; obtain ⟨⟨t109, t110, t111, t112⟩, dM, H⟩ := H; have TN := am dM; clear dM; simp only [Option.some.injEq, Prod.mk.injEq] at H; obtain ⟨rfl, rfl, rfl, rfl, rfl⟩ := H; obtain ⟨vK, bh0⟩ := Q1.out; have XX := D9 vK; have jW := e9 vK; have nY := E9 vK; have bd0 := g9 vK; have ZX := Y0 vK 0; have CX := Y0 vK 1; have IV := Y0 vK 2; have aw7 := Y0 vK 3; clear vK bh0; have p9 : 0 ≤ (U1 : Int) := of_decide_eq_true R1; have q9 : U1 < (Y1.size : Int) := of_decide_eq_true R1; have nL := K9 Y1 U1; replace p9 := eq_true p9; replace q9 := eq_true q9; go_enter Try.func71, Try.ntmps71; go_wp2_with ((go_at_call 77; (with_reducible refine (S9.calls g Y1 U1 V3 z3 151 t109 t110 t111 t112 w0 _ ?side1 ?side2 TN.out).mono ?_); (case side1 => exact PA); (case side2 => repeat (first | (with_reducible first | exact I.out | apply I6 | apply q5 | apply G6 | refine i4 ?_ (X1.ge Q1.out)) | exact I.out)); rintro e KY ⟨rfl, hi, G, X⟩; replace HK := am (F1.trans JA X (.inl rfl)); replace I := am (G); replace Q1 := am (hi); obtain ⟨lA, uU⟩ := Q1.out; have EX := D9 lA; have pY := e9 lA; have kY := E9 lA; have Hh := g9 lA; have bW := Y0 lA 0; have DY := Y0 lA 1; have wY := Y0 lA 2; have Lg := Y0 lA 3; clear lA uU)); repeat (go_quiet ((go_at_call 77; (with_reducible refine (S9.calls g Y1 U1 V3 z3 151 t109 t110 t111 t112 w0 _ ?side1 ?side2 TN.out).mono ?_); (case side1 => exact PA); (case side2 => repeat (first | (with_reducible first | exact I.out | apply I6 | apply q5 | apply G6 | refine i4 ?_ (X1.ge Q1.out)) | exact I.out)); rintro e KY ⟨rfl, hi, G, X⟩; replace HK := am (F1.trans JA X (.inl rfl)); replace I := am (G); replace Q1 := am (hi); obtain ⟨lA, uU⟩ := Q1.out; have EX := D9 lA; have pY := e9 lA; have kY := E9 lA; have Hh := g9 lA; have bW := Y0 lA 0; have DY := Y0 lA 1; have wY := Y0 lA 2; have Lg := Y0 lA 3; clear lA uU)); try go_wp2_with ((go_at_call 77; (with_reducible refine (S9.calls g Y1 U1 V3 z3 151 t109 t110 t111 t112 w0 _ ?side1 ?side2 TN.out).mono ?_); (case side1 => exact jP); (case side2 => exact dP); rintro e KY ⟨rfl, hi, G, X⟩; replace HK := am (F1.trans bP X (.inl rfl)); replace I := am (G); replace Q1 := am (hi); obtain ⟨lA, uU⟩ := Q1.out; have EX := D9 lA; have pY := e9 lA; have kY := E9 lA; have Hh := g9 lA; have bW := Y0 lA 0; have DY := Y0 lA 1; have wY := Y0 lA 2; have Lg := Y0 lA 3; clear lA uU)))
 go_ret; exact ⟨by rfl, by repeat ((with_reducible first | exact Q1.out | apply X1.set_1)), by repeat ((with_reducible first | exact I.out | refine i4 ?_ (X1.ge Q1.out))), KZ⟩
def bE.f (Y1 : ByteArray) (U1 : Int) (V3 : Int) (z3 : Int) : Option (Int × ByteArray × Int × Int × Int) := if z3 = 0 then (if U1 ≥ (Y1.size : Int) then ((S9.f Y1 U1 V3 z3 152).bind fun O3 => (some (0, O3.1, O3.2.1, O3.2.2.1, O3.2.2.2))) else (if 0 ≤ U1 then (if U1 < (Y1.size : Int) then (if (wrap64 (bt Y1 U1)) ≥ 128 then ((S9.f Y1 U1 V3 z3 151).bind fun mE => (some (0, mE.1, mE.2.1, mE.2.2.1, mE.2.2.2))) else (some (wrap64 (bt Y1 U1), Y1, wrap64 (U1 + 1), V3, z3))) else (none)) else (none))) else (some (0, Y1, U1, V3, z3))
set_option maxHeartbeats 8000000 in
set_option maxRecDepth 100000 in
theorem bE.calls (g : Nat) (Y1 : ByteArray) (U1 : Int) (V3 : Int) (z3 : Int) (r1 : Int) (r2 : ByteArray) (r3 : Int) (r4 : Int) (r5 : Int) (w0 w : World) (hI : X1 w0 w g Y1 U1 V3 z3) (hB : Below w0.heap.size w0 w) (h : bE.f Y1 U1 V3 z3 = some (r1, r2, r3, r4, r5)) :
 Calls Try.prog 72 #[.pointer (some ⟨g, 0, none⟩)] w fun e w' => e = .returned (.int .i64 r1) ∧ X1 w0 w' g r2 r3 r4 r5 ∧ Below w0.heap.size w0 w' ∧ F1 w w' g none := by
 have Q1 := am hI; have HK := am (F1.refl w g none); have HL := am hB.size; clear hI; have VG := am hB.size; have I := am hB; clear hB; have H := h; unfold bE.f at H; clear h; by_cases c2 : z3 = 0; rotate_left
 ·rw [if_neg c2] at H; have G9 : (z3 == 0) = false := beq_eq_false_iff_ne.mpr c2; have oE : (z3 != 0) = true := bne_iff_ne.mpr c2; simp only [Option.some.injEq, Prod.mk.injEq] at H; obtain ⟨rfl, rfl, rfl, rfl, rfl⟩ := H; obtain ⟨a9, MO⟩ := Q1.out; have gM := D9 a9; have BL := e9 a9; have yL := E9 a9; have kQ := g9 a9; have MM := Y0 a9 0; have UL := Y0 a9 1; have vM := Y0 a9 2; have pQ := Y0 a9 3; clear a9 MO; go_enter Try.func72, Try.ntmps72; go_wp2; repeat (go_quiet (fail); try go_wp2)
  go_ret; exact ⟨by rfl, CB, BB, dB⟩
 rw [if_pos c2] at H; have G9 : (z3 == 0) = true := beq_iff_eq.mpr c2; have oE : (z3 != 0) = false := bne_eq_false_iff_eq.mpr c2; clear c2; by_cases c3 : U1 ≥ (Y1.size : Int)
 ·rw [if_pos c3] at H; have S8 : decide ((Y1.size : Int) ≤ U1) = true := decide_eq_true c3; clear c3; replace H := L2 H; obtain ⟨⟨t101, t102, t103, t104⟩, mA, H⟩ := H; have A4 := am mA; clear mA; simp only [Option.some.injEq, Prod.mk.injEq] at H; obtain ⟨rfl, rfl, rfl, rfl, rfl⟩ := H; obtain ⟨b9, vN⟩ := Q1.out; have wL := D9 b9; have EM := e9 b9; have sM := E9 b9; have WP := g9 b9; have LL := Y0 b9 0; have BM := Y0 b9 1; have lM := Y0 b9 2; have FQ := Y0 b9 3; clear b9 vN; go_enter Try.func72, Try.ntmps72; go_wp2_with ((go_at_call 77; (with_reducible refine (S9.calls g Y1 U1 V3 z3 152 t101 t102 t103 t104 w0 _ ?side1 ?side2 A4.out).mono ?_); (case side1 => exact PA); (case side2 => repeat (first | (with_reducible first | exact I.out | apply I6 | apply q5 | apply G6 | refine i4 ?_ (X1.ge Q1.out)) | exact I.out)); rintro e w6 ⟨rfl, hi, G, X⟩; replace HK := am (F1.trans JA X (.inl rfl)); replace I := am (G); replace Q1 := am (hi); )); repeat (go_quiet ((go_at_call 77; (with_reducible refine (S9.calls g Y1 U1 V3 z3 152 t101 t102 t103 t104 w0 _ ?side1 ?side2 A4.out).mono ?_); (case side1 => exact PA); (case side2 => repeat (first | (with_reducible first | exact I.out | apply I6 | apply q5 | apply G6 | refine i4 ?_ (X1.ge Q1.out)) | exact I.out)); rintro e w6 ⟨rfl, hi, G, X⟩; replace HK := am (F1.trans JA X (.inl rfl)); replace I := am (G); replace Q1 := am (hi); )); try go_wp2_with ((go_at_call 77; (with_reducible refine (S9.calls g Y1 U1 V3 z3 152 t101 t102 t103 t104 w0 _ ?side1 ?side2 A4.out).mono ?_); (case side1 => exact jP); (case side2 => exact dP); rintro e w6 ⟨rfl, hi, G, X⟩; replace HK := am (F1.trans bP X (.inl rfl)); replace I := am (G); replace Q1 := am (hi); )))
  go_ret; exact ⟨by rfl, CB, BB, dB⟩
 rw [if_neg c3] at H; have S8 : decide ((Y1.size : Int) ≤ U1) = false := decide_eq_false c3; clear c3; by_cases c7 : 0 ≤ U1; rotate_left
 ·rw [if_neg c7] at H; exact absurd H (by simp)
 rw [if_pos c7] at H; have lC : decide (0 ≤ U1) = true := decide_eq_true c7; clear c7; by_cases c8 : U1 < (Y1.size : Int); rotate_left
 ·rw [if_neg c8] at H; exact absurd H (by simp)
 rw [if_pos c8] at H; have JG : decide (U1 < (Y1.size : Int)) = true := decide_eq_true c8; clear c8; by_cases c10 : (wrap64 (bt Y1 U1)) ≥ 128; rotate_left
 ·rw [if_neg c10] at H; have hG : decide (128 ≤ (wrap64 (bt Y1 U1))) = false := decide_eq_false c10; clear c10; simp only [Option.some.injEq, Prod.mk.injEq] at H; obtain ⟨rfl, rfl, rfl, rfl, rfl⟩ := H; obtain ⟨tD, Ig⟩ := Q1.out; have IL := D9 tD; have rM := e9 tD; have aM := E9 tD; have Jx := g9 tD; have zM := Y0 tD 0; have IM := Y0 tD 1; have OL := Y0 tD 2; have Nr := Y0 tD 3; clear tD Ig; have p9 : 0 ≤ (U1 : Int) := of_decide_eq_true R1; have q9 : U1 < (Y1.size : Int) := of_decide_eq_true R1; have nL := K9 Y1 U1; replace p9 := eq_true p9; replace q9 := eq_true q9; go_enter Try.func72, Try.ntmps72; go_wp2; repeat (go_quiet (fail); try go_wp2)
  go_ret; exact ⟨by rfl, kV, by repeat ((with_reducible first | exact I.out | apply q5 | refine i4 ?_ (X1.ge Q1.out))), CV⟩
 rw [if_pos c10] at H; have hG : decide (128 ≤ (wrap64 (bt Y1 U1))) = true := decide_eq_true c10; clear c10; replace H := L2 H; obtain ⟨⟨t105, t106, t107, t108⟩, XF, H⟩ := H; have VE := am XF; clear XF; simp only [Option.some.injEq, Prod.mk.injEq] at H; obtain ⟨rfl, rfl, rfl, rfl, rfl⟩ := H; obtain ⟨xA, OR⟩ := Q1.out; have FM := D9 xA; have xL := e9 xA; have EL := E9 xA; have KT := g9 xA; have CL := Y0 xA 0; have qM := Y0 xA 1; have FL := Y0 xA 2; have IT := Y0 xA 3; clear xA OR; have p9 : 0 ≤ (U1 : Int) := of_decide_eq_true R1; have q9 : U1 < (Y1.size : Int) := of_decide_eq_true R1; have nL := K9 Y1 U1; replace p9 := eq_true p9; replace q9 := eq_true q9; go_enter Try.func72, Try.ntmps72; go_wp2_with ((go_at_call 77; (with_reducible refine (S9.calls g Y1 U1 V3 z3 151 t105 t106 t107 t108 w0 _ ?side1 ?side2 VE.out).mono ?_); (case side1 => exact PA); (case side2 => repeat (first | (with_reducible first | exact I.out | apply I6 | apply q5 | apply G6 | refine i4 ?_ (X1.ge Q1.out)) | exact I.out)); rintro e n7 ⟨rfl, hi, G, X⟩; replace HK := am (F1.trans JA X (.inl rfl)); replace I := am (G); replace Q1 := am (hi); )); repeat (go_quiet ((go_at_call 77; (with_reducible refine (S9.calls g Y1 U1 V3 z3 151 t105 t106 t107 t108 w0 _ ?side1 ?side2 VE.out).mono ?_); (case side1 => exact PA); (case side2 => repeat (first | (with_reducible first | exact I.out | apply I6 | apply q5 | apply G6 | refine i4 ?_ (X1.ge Q1.out)) | exact I.out)); rintro e n7 ⟨rfl, hi, G, X⟩; replace HK := am (F1.trans JA X (.inl rfl)); replace I := am (G); replace Q1 := am (hi); )); try go_wp2_with ((go_at_call 77; (with_reducible refine (S9.calls g Y1 U1 V3 z3 151 t105 t106 t107 t108 w0 _ ?side1 ?side2 VE.out).mono ?_); (case side1 => exact jP); (case side2 => exact dP); rintro e n7 ⟨rfl, hi, G, X⟩; replace HK := am (F1.trans bP X (.inl rfl)); replace I := am (G); replace Q1 := am (hi); )))
 go_ret; exact ⟨by rfl, CB, BB, dB⟩
def zD.f (k : Nat) (Y1 : ByteArray) (U1 : Int) (V3 : Int) (z3 : Int) : Option (ByteArray × ByteArray × Int × Int × Int) := (aA.f k Y1 U1 V3 z3).bind fun O3 => (if O3.2.2.2.2 = 0 then (if O3.1 > 100000 then ((S9.f O3.2.1 O3.2.2.1 O3.2.2.2.1 O3.2.2.2.2 151).bind fun nB => (some ((⟨#[]⟩ : ByteArray), nB.1, nB.2.1, nB.2.2.1, nB.2.2.2))) else (if (wrap64 (O3.2.2.1 + O3.1)) > (O3.2.1.size : Int) then ((S9.f O3.2.1 O3.2.2.1 O3.2.2.2.1 O3.2.2.2.2 152).bind fun H7 => (some ((⟨#[]⟩ : ByteArray), H7.1, H7.2.1, H7.2.2.1, H7.2.2.2))) else (if 0 ≤ O3.2.2.1 then (if O3.2.2.1 ≤ (wrap64 (O3.2.2.1 + O3.1)) then (if (wrap64 (O3.2.2.1 + O3.1)) ≤ (O3.2.1.size : Int) then (some (O3.2.1.extract (O3.2.2.1 : Int).toNat ((wrap64 (O3.2.2.1 + O3.1)) : Int).toNat, O3.2.1, wrap64 (O3.2.2.1 + O3.1), O3.2.2.2.1, O3.2.2.2.2)) else (none)) else (none)) else (none)))) else (some ((⟨#[]⟩ : ByteArray), O3.2.1, O3.2.2.1, O3.2.2.2.1, O3.2.2.2.2)))
theorem zD.mono : ∀ a0 a1 a2 a3 k, F0 (zD.f k a0 a1 a2 a3) (zD.f (k + 1) a0 a1 a2 a3) := by
 intro a0 a1 a2 a3 k
 unfold zD.f
 repeat' with_reducible first
  | apply aA.mono
  | apply F0.refl
  | refine F0.bind ?_ (fun _ => ?_)
set_option maxHeartbeats 8000000 in
set_option maxRecDepth 100000 in
theorem zD.calls (k : Nat) (g : Nat) (Y1 : ByteArray) (U1 : Int) (V3 : Int) (z3 : Int) (r1 : ByteArray) (r2 : ByteArray) (r3 : Int) (r4 : Int) (r5 : Int) (w0 w : World) (hI : X1 w0 w g Y1 U1 V3 z3) (hB : Below w0.heap.size w0 w) (h : zD.f k Y1 U1 V3 z3 = some (r1, r2, r3, r4, r5)) :
 Calls Try.prog 73 #[.pointer (some ⟨g, 0, none⟩)] w fun e w' => e = .returned (.string r1) ∧ X1 w0 w' g r2 r3 r4 r5 ∧ Below w0.heap.size w0 w' ∧ F1 w w' g none := by
 have Q1 := am hI; have HK := am (F1.refl w g none); have HL := am hB.size; clear hI; have VG := am hB.size; have I := am hB; clear hB; have H := h; unfold zD.f at H; clear h; replace H := L2 H; obtain ⟨⟨t101, t102, t103, t104, t105⟩, f_, H⟩ := H; have A2 := am f_; clear f_; by_cases c3 : t105 = 0; rotate_left
 ·rw [if_neg c3] at H; have S8 : (t105 == 0) = false := beq_eq_false_iff_ne.mpr c3; have qD : (t105 != 0) = true := bne_iff_ne.mpr c3; simp only [Option.some.injEq, Prod.mk.injEq] at H; obtain ⟨rfl, rfl, rfl, rfl, rfl⟩ := H; go_enter Try.func73, Try.ntmps73; go_wp2_with ((go_at_call 70; (with_reducible refine (aA.calls k g Y1 U1 V3 z3 t101 t102 t103 t104 t105 w0 _ ?side1 ?side2 A2.out).mono ?_); (case side1 => exact CB); (case side2 => exact BB); rintro e R5 ⟨rfl, hi, G, X⟩; replace HK := am (F1.trans dB X (.inl rfl)); replace I := am (G); replace Q1 := am (hi); obtain ⟨uA, fU⟩ := Q1.out; have LP := D9 uA; have PP := e9 uA; have EP := E9 uA; have WR := g9 uA; have CQ := Y0 uA 0; have CP := Y0 uA 1; have zP := Y0 uA 2; have eS := Y0 uA 3; clear uA fU)); repeat (go_quiet ((go_at_call 70; (with_reducible refine (aA.calls k g Y1 U1 V3 z3 t101 t102 t103 t104 t105 w0 _ ?side1 ?side2 A2.out).mono ?_); (case side1 => exact PA); (case side2 => repeat (first | (with_reducible first | exact I.out | apply I6 | apply q5 | apply G6 | refine i4 ?_ (X1.ge Q1.out)) | exact I.out)); rintro e R5 ⟨rfl, hi, G, X⟩; replace HK := am (F1.trans JA X (.inl rfl)); replace I := am (G); replace Q1 := am (hi); obtain ⟨uA, fU⟩ := Q1.out; have LP := D9 uA; have PP := e9 uA; have EP := E9 uA; have WR := g9 uA; have CQ := Y0 uA 0; have CP := Y0 uA 1; have zP := Y0 uA 2; have eS := Y0 uA 3; clear uA fU)); try go_wp2_with ((go_at_call 70; (with_reducible refine (aA.calls k g Y1 U1 V3 z3 t101 t102 t103 t104 t105 w0 _ ?side1 ?side2 A2.out).mono ?_); (case side1 => exact PA); (case side2 => repeat (first | (with_reducible first | exact I.out | apply I6 | apply q5 | apply G6 | refine i4 ?_ (X1.ge Q1.out)) | exact I.out)); rintro e R5 ⟨rfl, hi, G, X⟩; replace HK := am (F1.trans JA X (.inl rfl)); replace I := am (G); replace Q1 := am (hi); obtain ⟨uA, fU⟩ := Q1.out; have LP := D9 uA; have PP := e9 uA; have EP := E9 uA; have WR := g9 uA; have CQ := Y0 uA 0; have CP := Y0 uA 1; have zP := Y0 uA 2; have eS := Y0 uA 3; clear uA fU)))
  go_ret; exact ⟨by rfl, CB, BB, dB⟩
 rw [if_pos c3] at H; have S8 : (t105 == 0) = true := beq_iff_eq.mpr c3; have qD : (t105 != 0) = false := bne_eq_false_iff_eq.mpr c3; clear c3; by_cases c4 : t101 > 100000
 ·rw [if_pos c4] at H; have T7 : decide (100000 < t101) = true := decide_eq_true c4; clear c4; replace H := L2 H; obtain ⟨⟨t106, t107, t108, t109⟩, v_, H⟩ := H; have A5 := am v_; clear v_; simp only [Option.some.injEq, Prod.mk.injEq] at H; obtain ⟨rfl, rfl, rfl, rfl, rfl⟩ := H; go_enter Try.func73, Try.ntmps73; go_wp2_with (first | (go_at_call 70; (with_reducible refine (aA.calls k g Y1 U1 V3 z3 t101 t102 t103 t104 t105 w0 _ ?side1 ?side2 A2.out).mono ?_); (case side1 => exact CB); (case side2 => exact BB); rintro e w6 ⟨rfl, hi, G, X⟩; replace HK := am (F1.trans dB X (.inl rfl)); replace I := am (G); replace Q1 := am (hi); obtain ⟨Y8, vO⟩ := Q1.out; have aK := D9 Y8; have VK := e9 Y8; have pK := E9 Y8; have oM := g9 Y8; have kL := Y0 Y8 0; have QK := Y0 Y8 1; have YK := Y0 Y8 2; have bM := Y0 Y8 3; clear Y8 vO) | (go_at_call 77; (with_reducible refine (S9.calls g t102 t103 t104 t105 151 t106 t107 t108 t109 w0 _ ?side1 ?side2 A5.out).mono ?_); (case side1 => exact CB); (case side2 => exact BB); rintro e w8 ⟨rfl, hi, G, X⟩; replace HK := am (F1.trans dB X (.inl rfl)); replace I := am (G); replace Q1 := am (hi); )); repeat (go_quiet (first | (go_at_call 70; (with_reducible refine (aA.calls k g Y1 U1 V3 z3 t101 t102 t103 t104 t105 w0 _ ?side1 ?side2 A2.out).mono ?_); (case side1 => exact PA); (case side2 => repeat (first | (with_reducible first | exact I.out | apply I6 | apply q5 | apply G6 | refine i4 ?_ (X1.ge Q1.out)) | exact I.out)); rintro e w6 ⟨rfl, hi, G, X⟩; replace HK := am (F1.trans JA X (.inl rfl)); replace I := am (G); replace Q1 := am (hi); obtain ⟨Y8, vO⟩ := Q1.out; have aK := D9 Y8; have VK := e9 Y8; have pK := E9 Y8; have oM := g9 Y8; have kL := Y0 Y8 0; have QK := Y0 Y8 1; have YK := Y0 Y8 2; have bM := Y0 Y8 3; clear Y8 vO) | (go_at_call 77; (with_reducible refine (S9.calls g t102 t103 t104 t105 151 t106 t107 t108 t109 w0 _ ?side1 ?side2 A5.out).mono ?_); (case side1 => exact PA); (case side2 => repeat (first | (with_reducible first | exact I.out | apply I6 | apply q5 | apply G6 | refine i4 ?_ (X1.ge Q1.out)) | exact I.out)); rintro e w8 ⟨rfl, hi, G, X⟩; replace HK := am (F1.trans JA X (.inl rfl)); replace I := am (G); replace Q1 := am (hi); )); try go_wp2_with (first | (go_at_call 70; (with_reducible refine (aA.calls k g Y1 U1 V3 z3 t101 t102 t103 t104 t105 w0 _ ?side1 ?side2 A2.out).mono ?_); (case side1 => exact PA); (case side2 => repeat (first | (with_reducible first | exact I.out | apply I6 | apply q5 | apply G6 | refine i4 ?_ (X1.ge Q1.out)) | exact I.out)); rintro e w6 ⟨rfl, hi, G, X⟩; replace HK := am (F1.trans JA X (.inl rfl)); replace I := am (G); replace Q1 := am (hi); obtain ⟨Y8, vO⟩ := Q1.out; have aK := D9 Y8; have VK := e9 Y8; have pK := E9 Y8; have oM := g9 Y8; have kL := Y0 Y8 0; have QK := Y0 Y8 1; have YK := Y0 Y8 2; have bM := Y0 Y8 3; clear Y8 vO) | (go_at_call 77; (with_reducible refine (S9.calls g t102 t103 t104 t105 151 t106 t107 t108 t109 w0 _ ?side1 ?side2 A5.out).mono ?_); (case side1 => exact PA); (case side2 => repeat (first | (with_reducible first | exact I.out | apply I6 | apply q5 | apply G6 | refine i4 ?_ (X1.ge Q1.out)) | exact I.out)); rintro e w8 ⟨rfl, hi, G, X⟩; replace HK := am (F1.trans JA X (.inl rfl)); replace I := am (G); replace Q1 := am (hi); )))
  go_ret; exact ⟨by rfl, CB, BB, dB⟩
 rw [if_neg c4] at H; have T7 : decide (100000 < t101) = false := decide_eq_false c4; clear c4; by_cases c9 : (wrap64 (t103 + t101)) > (t102.size : Int)
 ·rw [if_pos c9] at H; have xH : decide ((t102.size : Int) < (wrap64 (t103 + t101))) = true := decide_eq_true c9; clear c9; replace H := L2 H; obtain ⟨⟨t110, t111, t112, T5⟩, aJ, H⟩ := H; have YI := am aJ; clear aJ; simp only [Option.some.injEq, Prod.mk.injEq] at H; obtain ⟨rfl, rfl, rfl, rfl, rfl⟩ := H; go_enter Try.func73, Try.ntmps73; go_wp2_with ((go_at_call 70; (with_reducible refine (aA.calls k g Y1 U1 V3 z3 t101 t102 t103 t104 t105 w0 _ ?side1 ?side2 A2.out).mono ?_); (case side1 => exact CB); (case side2 => exact BB); rintro e pM ⟨rfl, hi, G, X⟩; replace HK := am (F1.trans dB X (.inl rfl)); replace I := am (G); replace Q1 := am (hi); obtain ⟨xA, OR⟩ := Q1.out; have FM := D9 xA; have xL := e9 xA; have EL := E9 xA; have KT := g9 xA; have CL := Y0 xA 0; have qM := Y0 xA 1; have FL := Y0 xA 2; have IT := Y0 xA 3; clear xA OR)); repeat (go_quiet (first | (go_at_call 70; (with_reducible refine (aA.calls k g Y1 U1 V3 z3 t101 t102 t103 t104 t105 w0 _ ?side1 ?side2 A2.out).mono ?_); (case side1 => exact PA); (case side2 => repeat (first | (with_reducible first | exact I.out | apply I6 | apply q5 | apply G6 | refine i4 ?_ (X1.ge Q1.out)) | exact I.out)); rintro e pM ⟨rfl, hi, G, X⟩; replace HK := am (F1.trans JA X (.inl rfl)); replace I := am (G); replace Q1 := am (hi); obtain ⟨xA, OR⟩ := Q1.out; have FM := D9 xA; have xL := e9 xA; have EL := E9 xA; have KT := g9 xA; have CL := Y0 xA 0; have qM := Y0 xA 1; have FL := Y0 xA 2; have IT := Y0 xA 3; clear xA OR) | (go_at_call 77; (with_reducible refine (S9.calls g t102 t103 t104 t105 152 t110 t111 t112 T5 w0 _ ?side1 ?side2 YI.out).mono ?_); (case side1 => exact PA); (case side2 => repeat (first | (with_reducible first | exact I.out | apply I6 | apply q5 | apply G6 | refine i4 ?_ (X1.ge Q1.out)) | exact I.out)); rintro e n7 ⟨rfl, hi, G, X⟩; replace HK := am (F1.trans JA X (.inl rfl)); replace I := am (G); replace Q1 := am (hi); )); try go_wp2_with ((go_at_call 77; (with_reducible refine (S9.calls g t102 t103 t104 t105 152 t110 t111 t112 T5 w0 _ ?side1 ?side2 YI.out).mono ?_); (case side1 => exact jP); (case side2 => exact dP); rintro e n7 ⟨rfl, hi, G, X⟩; replace HK := am (F1.trans bP X (.inl rfl)); replace I := am (G); replace Q1 := am (hi); )))
  go_ret; exact ⟨by rfl, CB, BB, dB⟩
 rw [if_neg c9] at H; have xH : decide ((t102.size : Int) < (wrap64 (t103 + t101))) = false := decide_eq_false c9; clear c9; by_cases F8 : 0 ≤ t103; rotate_left
 ·rw [if_neg F8] at H; exact absurd H (by simp)
 rw [if_pos F8] at H; have DM := eq_true F8; have Bc : decide (0 ≤ t103) = true := decide_eq_true F8; clear F8; by_cases i5 : t103 ≤ (wrap64 (t103 + t101)); rotate_left
 ·rw [if_neg i5] at H; exact absurd H (by simp)
 rw [if_pos i5] at H; have oJ := eq_true i5; have ZN : decide (t103 ≤ (wrap64 (t103 + t101))) = true := decide_eq_true i5; by_cases Q8 : (wrap64 (t103 + t101)) ≤ (t102.size : Int); rotate_left
 ·rw [if_neg Q8] at H; exact absurd H (by simp)
 rw [if_pos Q8] at H; have XU := eq_true Q8; have ax4 : decide ((wrap64 (t103 + t101)) ≤ (t102.size : Int)) = true := decide_eq_true Q8; simp only [Option.some.injEq, Prod.mk.injEq] at H; obtain ⟨rfl, rfl, rfl, rfl, rfl⟩ := H; go_enter Try.func73, Try.ntmps73; go_wp2_with ((go_at_call 70; (with_reducible refine (aA.calls k g Y1 U1 V3 z3 t101 t102 t103 t104 t105 w0 _ ?side1 ?side2 A2.out).mono ?_); (case side1 => exact CB); (case side2 => exact BB); rintro e E7 ⟨rfl, hi, G, X⟩; replace HK := am (F1.trans dB X (.inl rfl)); replace I := am (G); replace Q1 := am (hi); obtain ⟨rA, jT⟩ := Q1.out; have wN := D9 rA; have JO := e9 rA; have qO := E9 rA; have uT := g9 rA; have NN := Y0 rA 0; have lO := Y0 rA 1; have tN := Y0 rA 2; have nS := Y0 rA 3; clear rA jT)); repeat (go_quiet ((go_at_call 70; (with_reducible refine (aA.calls k g Y1 U1 V3 z3 t101 t102 t103 t104 t105 w0 _ ?side1 ?side2 A2.out).mono ?_); (case side1 => exact PA); (case side2 => repeat (first | (with_reducible first | exact I.out | apply I6 | apply q5 | apply G6 | refine i4 ?_ (X1.ge Q1.out)) | exact I.out)); rintro e E7 ⟨rfl, hi, G, X⟩; replace HK := am (F1.trans JA X (.inl rfl)); replace I := am (G); replace Q1 := am (hi); obtain ⟨rA, jT⟩ := Q1.out; have wN := D9 rA; have JO := e9 rA; have qO := E9 rA; have uT := g9 rA; have NN := Y0 rA 0; have lO := Y0 rA 1; have tN := Y0 rA 2; have nS := Y0 rA 3; clear rA jT)); try go_wp2_with ((go_at_call 70; (with_reducible refine (aA.calls k g Y1 U1 V3 z3 t101 t102 t103 t104 t105 w0 _ ?side1 ?side2 A2.out).mono ?_); (case side1 => exact PA); (case side2 => repeat (first | (with_reducible first | exact I.out | apply I6 | apply q5 | apply G6 | refine i4 ?_ (X1.ge Q1.out)) | exact I.out)); rintro e E7 ⟨rfl, hi, G, X⟩; replace HK := am (F1.trans JA X (.inl rfl)); replace I := am (G); replace Q1 := am (hi); obtain ⟨rA, jT⟩ := Q1.out; have wN := D9 rA; have JO := e9 rA; have qO := E9 rA; have uT := g9 rA; have NN := Y0 rA 0; have lO := Y0 rA 1; have tN := Y0 rA 2; have nS := Y0 rA 3; clear rA jT)))
 go_ret; exact ⟨by rfl, kV, by repeat ((with_reducible first | exact I.out | apply q5 | refine i4 ?_ (X1.ge Q1.out))), CV⟩
def mH.f (k : Nat) (Y1 : ByteArray) (U1 : Int) (V3 : Int) (z3 : Int) : Option (Int × Int × Int × Int × Int × ByteArray × ByteArray × Int × Int × Int) := (aA.f k Y1 U1 V3 z3).bind fun z6 => ((PE.f z6.2.1 z6.2.2.1 z6.2.2.2.1 z6.2.2.2.2).bind fun N6 => (if N6.1 = 255 then ((bE.f N6.2.1 N6.2.2.1 0 N6.2.2.2.2).bind fun SU => ((zD.f k SU.2.1 SU.2.2.1 SU.2.2.2.1 SU.2.2.2.2).bind fun uD => (some (z6.1, 16, 0, SU.1, 0, uD.1, uD.2.1, uD.2.2.1, uD.2.2.2.1, uD.2.2.2.2)))) else (if N6.1 ≥ 240 then ((zD.f k N6.2.1 N6.2.2.1 0 N6.2.2.2.2).bind fun zT => (some (z6.1, 15, 0, N6.1, 0, zT.1, zT.2.1, zT.2.2.1, zT.2.2.2.1, zT.2.2.2.2))) else ((bE.f N6.2.1 N6.2.2.1 N6.1 N6.2.2.2.2).bind fun sJ => ((JC.f (wrap64 (Int.tdiv N6.1 16))).bind fun OB => (if OB = true then (some (z6.1, wrap64 (Int.tdiv N6.1 16), Int.tmod N6.1 16, sJ.1, 0, (⟨#[]⟩ : ByteArray), sJ.2.1, sJ.2.2.1, sJ.2.2.2.1, sJ.2.2.2.2)) else ((bE.f sJ.2.1 sJ.2.2.1 sJ.2.2.2.1 sJ.2.2.2.2).bind fun Z8 => (some (z6.1, wrap64 (Int.tdiv N6.1 16), Int.tmod N6.1 16, sJ.1, Z8.1, (⟨#[]⟩ : ByteArray), Z8.2.1, Z8.2.2.1, Z8.2.2.2.1, Z8.2.2.2.2)))))))))
theorem mH.mono : ∀ a0 a1 a2 a3 k, F0 (mH.f k a0 a1 a2 a3) (mH.f (k + 1) a0 a1 a2 a3) := by
 intro a0 a1 a2 a3 k
 unfold mH.f
 repeat' with_reducible first
  | apply zD.mono
  | apply aA.mono
  | apply F0.refl
  | refine F0.ite ?_ ?_
  | refine F0.bind ?_ (fun _ => ?_)
set_option maxHeartbeats 8000000 in
set_option maxRecDepth 100000 in
theorem mH.calls (k : Nat) (g : Nat) (Y1 : ByteArray) (U1 : Int) (V3 : Int) (z3 : Int) (r1 : Int) (r2 : Int) (r3 : Int) (r4 : Int) (r5 : Int) (r6 : ByteArray) (r7 : ByteArray) (r8 : Int) (r9 : Int) (kX : Int) (w0 w : World) (hI : X1 w0 w g Y1 U1 V3 z3) (hB : Below w0.heap.size w0 w) (h : mH.f k Y1 U1 V3 z3 = some (r1, r2, r3, r4, r5, r6, r7, r8, r9, kX)) :
 Calls Try.prog 66 #[.pointer (some ⟨g, 0, none⟩)] w fun e w' => e = .returned (.agg #[.int .i64 r1, .int .i64 r2, .int .i64 r3, .int .i64 r4, .int .i64 r5, .string r6]) ∧ X1 w0 w' g r7 r8 r9 kX ∧ Below w0.heap.size w0 w' ∧ F1 w w' g none := by
 have WB := Try.underlying28; have Q1 := am hI; have HK := am (F1.refl w g none); have HL := am hB.size; clear hI; have VG := am hB.size; have I := am hB; clear hB; have H := h; unfold mH.f at H; clear h; replace H := L2 H; obtain ⟨⟨t102, t103, t104, t105, t106⟩, f_, H⟩ := H; have A2 := am f_; clear f_; replace H := L2 H; obtain ⟨⟨t108, t109, t110, t111, t112⟩, Q_, H⟩ := H; have A3 := am Q_; clear Q_; by_cases c4 : t108 = 255
 ·rw [if_pos c4] at H; have T7 : (t108 == 255) = true := beq_iff_eq.mpr c4; have RE : (t108 != 255) = false := bne_eq_false_iff_eq.mpr c4; clear c4; replace H := L2 H; obtain ⟨⟨T5, N7, l_, J4, g6⟩, v_, H⟩ := H; have A5 := am v_; clear v_; replace H := L2 H; obtain ⟨⟨J3, EB, YB, E1, W9⟩, aG, H⟩ := H; have A6 := am aG; clear aG; simp only [Option.some.injEq, Prod.mk.injEq] at H; obtain ⟨rfl, rfl, rfl, rfl, rfl, rfl, rfl, rfl, rfl, rfl⟩ := H; go_enter Try.func66, Try.ntmps66; go_wp2_with (first | ((with_reducible refine P2 (N := 2) rfl ?_); refine D3 ?hg (N := 2) ?hd (cs := #[.int .i64 0, .int .i64 0, .int .i64 0, .int .i64 0, .int .i64 0, .string (⟨#[]⟩ : ByteArray)]) (t := 28) ?hr ?_; (case hd => rfl); (case hg => rfl); (case hr => exact Z2); intro n0 hg w7 M0 G; replace I := am (T0 BB G); have Y := am (M0); have W6 := am ((bF : w.heap.size ≤ n0)); have H0 := am ((Nat.le_trans VG.out (bF : w.heap.size ≤ n0) : w0.heap.size ≤ n0)); replace HK := am (F1.trans dB (F1.of_below G g none) (.inl rfl)); have EI := am ((mZ : g ≠ n0)); have UA := am ((QY : n0 ≠ g)); replace Q1 := am (X1.below CB G); clear G M0 hg) | ((with_reducible refine H2 (f := 70) rfl ?_); refine G2 (some 6) rfl rfl Try.func70 (by kernel_rfl) rfl #[.pointer (some ⟨g, 0, none⟩)] rfl F2 ?_; (with_reducible refine (aA.calls k g Y1 U1 V3 z3 t102 t103 t104 t105 t106 w0 _ ?side1 ?side2 A2.out).mono ?_); (case side1 => exact CB); (case side2 => exact BB); rintro e w8 ⟨rfl, hi, G, X⟩; refine ⟨_, rfl, ?_⟩; replace Y := am (F1.blk X (g' := n0) (o := .cells #[.int .i64 0, .int .i64 0, .int .i64 0, .int .i64 0, .int .i64 0, .string (⟨#[]⟩ : ByteArray)] 28 (0, 0)) (bq Y.out) UA.out (by simp)); replace HK := am (F1.trans dB X (.inl rfl)); replace I := am (G); replace Q1 := am (hi); ) | ((with_reducible refine P2 (N := 3) rfl ?_); refine D3 ?hg (N := 3) ?hd (cs := #[.int .i64 0, .int .i64 0, .int .i64 0, .int .i64 0, .int .i64 0, .string (⟨#[]⟩ : ByteArray)]) (t := 28) ?hr ?_; (case hd => rfl); (case hg => rfl); (case hr => exact Z2); intro z4 hg w9 M0 G; replace I := am (T0 BB G); have G8 := am (M0); have uF := am ((bF : w.heap.size ≤ z4)); have sD := am ((Nat.le_trans VG.out (bF : w.heap.size ≤ z4) : w0.heap.size ≤ z4)); replace HK := am (F1.trans dB (F1.of_below G g none) (.inl rfl)); have R6 := am ((V7 : n0 ≠ z4)); have KK := am ((X7 : z4 ≠ n0)); replace Y := am (O0 (bq Y.out) G); have PD := am ((UY : g ≠ z4)); have nC := am ((aZ : z4 ≠ g)); replace Q1 := am (X1.below CB G); clear G M0 hg; have cj4 := KK.out; have by5 := R6.out; have bs4 := nC.out; have bx2 := PD.out; obtain ⟨FM, xL, EL, KT, Sw, Xu, CL, qM, FL, IT, Fq, aa9⟩ := S1 G8.out) | ((with_reducible refine H2 (f := 71) rfl ?_); refine G2 (some 9) rfl rfl Try.func71 (by kernel_rfl) rfl #[.pointer (some ⟨g, 0, none⟩)] rfl F2 ?_; (with_reducible refine (PE.calls g t103 t104 t105 t106 t108 t109 t110 t111 t112 w0 _ ?side1 ?side2 A3.out).mono ?_); (case side1 => repeat ((with_reducible first | exact Q1.out | refine X1.far ?_ PD.out _))); (case side2 => repeat ((with_reducible first | exact I.out | refine i4 ?_ sD.out))); rintro e n7 ⟨rfl, hi, G, X⟩; refine ⟨_, rfl, ?_⟩; replace Y := am (F1.blk X (g' := n0) (o := .cells #[.int .i64 0, .int .i64 0, .int .i64 0, .int .i64 0, .int .i64 0, .string (⟨#[]⟩ : ByteArray)] 28 (0, 0)) (by refine bq ?_; refine P0 ?_ R6.out _; refine bq ?_; refine P0 ?_ R6.out _; refine bq ?_; refine P0 ?_ R6.out _; refine bq ?_; refine P0 ?_ R6.out _; refine bq ?_; refine P0 ?_ R6.out _; refine bq ?_; refine P0 ?_ R6.out _; exact bq Y.out) UA.out (by simp)); replace G8 := am (F1.blk X (g' := z4) (o := .cells #[.int .i64 t102, .int .i64 0, .int .i64 0, .int .i64 0, .int .i64 0, .string (⟨#[]⟩ : ByteArray)] 28 (0, 0)) (by refine bq ?_; refine J0 (cs := #[.int .i64 t102, .int .i64 0, .int .i64 0, .int .i64 0, .int .i64 0, .string (⟨#[]⟩ : ByteArray)]) ?_ 5 _ rfl; refine bq ?_; refine J0 (cs := #[.int .i64 t102, .int .i64 0, .int .i64 0, .int .i64 0, .int .i64 0, .string (⟨#[]⟩ : ByteArray)]) ?_ 4 _ rfl; refine bq ?_; refine J0 (cs := #[.int .i64 t102, .int .i64 0, .int .i64 0, .int .i64 0, .int .i64 0, .string (⟨#[]⟩ : ByteArray)]) ?_ 3 _ rfl; refine bq ?_; refine J0 (cs := #[.int .i64 t102, .int .i64 0, .int .i64 0, .int .i64 0, .int .i64 0, .string (⟨#[]⟩ : ByteArray)]) ?_ 2 _ rfl; refine bq ?_; refine J0 (cs := #[.int .i64 t102, .int .i64 0, .int .i64 0, .int .i64 0, .int .i64 0, .string (⟨#[]⟩ : ByteArray)]) ?_ 1 _ rfl; refine bq ?_; refine J0 (cs := #[.int .i64 0, .int .i64 0, .int .i64 0, .int .i64 0, .int .i64 0, .string (⟨#[]⟩ : ByteArray)]) ?_ 0 _ rfl; exact bq G8.out) nC.out (by simp)); replace HK := am (F1.trans (by repeat ((with_reducible first | exact HK.out | refine MF ?_ uF.out _))) X (.inl rfl)); replace I := am (G); replace Q1 := am (hi); obtain ⟨tD, Ig⟩ := Q1.out; have IL := D9 tD; have rM := e9 tD; have aM := E9 tD; have Jx := g9 tD; have zM := Y0 tD 0; have IM := Y0 tD 1; have OL := Y0 tD 2; have Nr := Y0 tD 3; clear tD Ig) | ((with_reducible refine H2 (f := 72) rfl ?_); refine G2 (some 37) rfl rfl Try.func72 (by kernel_rfl) rfl #[.pointer (some ⟨g, 0, none⟩)] rfl F2 ?_; (with_reducible refine (bE.calls g t109 t110 0 t112 T5 N7 l_ J4 g6 w0 _ ?side1 ?side2 A5.out).mono ?_); (case side1 => exact Um); (case side2 => repeat ((with_reducible first | exact I.out | refine i4 ?_ (X1.ge Q1.out)))); rintro e FD ⟨rfl, hi, G, X⟩; refine ⟨_, rfl, ?_⟩; replace Y := am (F1.blk X (g' := n0) (o := .cells #[.int .i64 0, .int .i64 0, .int .i64 0, .int .i64 0, .int .i64 0, .string (⟨#[]⟩ : ByteArray)] 28 (0, 0)) (by refine bq ?_; refine P0 ?_ UA.out _; exact bq Y.out) UA.out (by simp)); replace G8 := am (F1.blk X (g' := z4) (o := .cells #[.int .i64 t102, .int .i64 0, .int .i64 0, .int .i64 0, .int .i64 0, .string (⟨#[]⟩ : ByteArray)] 28 (0, 0)) (by refine bq ?_; refine P0 ?_ nC.out _; exact bq G8.out) nC.out (by simp)); replace HK := am (F1.trans KZ X (.inl rfl)); replace I := am (G); replace Q1 := am (hi); obtain ⟨dL, oK, IK, WT, CW, ZW, AK, mL, dK, SR, PV, QW⟩ := S1 G8.out) | ((with_reducible refine H2 (f := 73) rfl ?_); refine G2 (some 41) rfl rfl Try.func73 (by kernel_rfl) rfl #[.pointer (some ⟨g, 0, none⟩)] rfl F2 ?_; (with_reducible refine (zD.calls k g N7 l_ J4 g6 J3 EB YB E1 W9 w0 _ ?side1 ?side2 A6.out).mono ?_); (case side1 => repeat ((with_reducible first | exact Q1.out | refine X1.far ?_ PD.out _))); (case side2 => repeat ((with_reducible first | exact I.out | refine i4 ?_ sD.out))); rintro e E7 ⟨rfl, hi, G, X⟩; refine ⟨_, rfl, ?_⟩; replace Y := am (F1.blk X (g' := n0) (o := .cells #[.int .i64 0, .int .i64 0, .int .i64 0, .int .i64 0, .int .i64 0, .string (⟨#[]⟩ : ByteArray)] 28 (0, 0)) (by refine bq ?_; refine P0 ?_ R6.out _; refine bq ?_; refine P0 ?_ R6.out _; exact bq Y.out) UA.out (by simp)); replace G8 := am (F1.blk X (g' := z4) (o := .cells #[.int .i64 t102, .int .i64 16, .int .i64 0, .int .i64 T5, .int .i64 0, .string (⟨#[]⟩ : ByteArray)] 28 (0, 0)) (by refine bq ?_; refine J0 (cs := #[.int .i64 t102, .int .i64 16, .int .i64 0, .int .i64 0, .int .i64 0, .string (⟨#[]⟩ : ByteArray)]) ?_ 3 _ rfl; refine bq ?_; refine J0 (cs := #[.int .i64 t102, .int .i64 0, .int .i64 0, .int .i64 0, .int .i64 0, .string (⟨#[]⟩ : ByteArray)]) ?_ 1 _ rfl; exact bq G8.out) nC.out (by simp)); replace HK := am (F1.trans (by repeat ((with_reducible first | exact HK.out | refine MF ?_ uF.out _))) X (.inl rfl)); replace I := am (G); replace Q1 := am (hi); obtain ⟨wN, JO, qO, uT, Fv, Ao, NN, lO, tN, nS, Hq, ab3⟩ := S1 G8.out; have cf5 := UA.out; have cc0 := EI.out; obtain ⟨LP, PP, EP, WR, My, Gx, CQ, CP, zP, eS, Tx, Mw⟩ := S1 Y.out)); refine bodyPost_ret (results_cell_row rfl _ _ n0 28 #[.int .i64 t102, .int .i64 16, .int .i64 0, .int .i64 T5, .int .i64 0, .string J3] (0, 0) _ rfl (by refine bq ?_; refine J0 (cs := #[.int .i64 t102, .int .i64 16, .int .i64 0, .int .i64 T5, .int .i64 0, .string (⟨#[]⟩ : ByteArray)]) ?_ 5 _ rfl; refine bq ?_; refine J0 (cs := #[.int .i64 t102, .int .i64 16, .int .i64 0, .int .i64 T5, .int .i64 0, .string (⟨#[]⟩ : ByteArray)]) ?_ 4 _ rfl; refine bq ?_; refine J0 (cs := #[.int .i64 t102, .int .i64 16, .int .i64 0, .int .i64 0, .int .i64 0, .string (⟨#[]⟩ : ByteArray)]) ?_ 3 _ rfl; refine bq ?_; refine J0 (cs := #[.int .i64 t102, .int .i64 16, .int .i64 0, .int .i64 0, .int .i64 0, .string (⟨#[]⟩ : ByteArray)]) ?_ 2 _ rfl; refine bq ?_; refine J0 (cs := #[.int .i64 t102, .int .i64 0, .int .i64 0, .int .i64 0, .int .i64 0, .string (⟨#[]⟩ : ByteArray)]) ?_ 1 _ rfl; refine bq ?_; refine J0 (cs := #[.int .i64 0, .int .i64 0, .int .i64 0, .int .i64 0, .int .i64 0, .string (⟨#[]⟩ : ByteArray)]) ?_ 0 _ rfl; refine bq ?_; refine P0 ?_ R6.out _; exact bq Y.out) Try.underlying28 rfl (by kernel_rfl)) rfl ?_; exact ⟨by rfl, by repeat ((with_reducible first | exact Q1.out | refine X1.far ?_ EI.out _ | refine X1.far ?_ PD.out _)), by repeat ((with_reducible first | exact I.out | refine i4 ?_ H0.out | refine i4 ?_ sD.out)), by repeat ((with_reducible first | exact HK.out | refine MF ?_ W6.out _ | refine MF ?_ uF.out _))⟩
 rw [if_neg c4] at H; have T7 : (t108 == 255) = false := beq_eq_false_iff_ne.mpr c4; have RE : (t108 != 255) = true := bne_iff_ne.mpr c4; by_cases q7 : t108 ≥ 240
 ·rw [if_pos q7] at H; have WI : decide (240 ≤ t108) = true := decide_eq_true q7; clear q7; replace H := L2 H; obtain ⟨⟨JM, MD, UE, L7, dA⟩, dM, H⟩ := H; have TN := am dM; clear dM; simp only [Option.some.injEq, Prod.mk.injEq] at H; obtain ⟨rfl, rfl, rfl, rfl, rfl, rfl, rfl, rfl, rfl, rfl⟩ := H; go_enter Try.func66, Try.ntmps66; go_wp2_with (first | ((with_reducible refine P2 (N := 2) rfl ?_); refine D3 ?hg (N := 2) ?hd (cs := #[.int .i64 0, .int .i64 0, .int .i64 0, .int .i64 0, .int .i64 0, .string (⟨#[]⟩ : ByteArray)]) (t := 28) ?hr ?_; (case hd => rfl); (case hg => rfl); (case hr => exact Z2); intro n0 hg Yx M0 G; replace I := am (T0 BB G); have Y := am (M0); have W6 := am ((bF : w.heap.size ≤ n0)); have H0 := am ((Nat.le_trans VG.out (bF : w.heap.size ≤ n0) : w0.heap.size ≤ n0)); replace HK := am (F1.trans dB (F1.of_below G g none) (.inl rfl)); have EI := am ((mZ : g ≠ n0)); have UA := am ((QY : n0 ≠ g)); replace Q1 := am (X1.below CB G); clear G M0 hg) | ((with_reducible refine H2 (f := 70) rfl ?_); refine G2 (some 6) rfl rfl Try.func70 (by kernel_rfl) rfl #[.pointer (some ⟨g, 0, none⟩)] rfl F2 ?_; (with_reducible refine (aA.calls k g Y1 U1 V3 z3 t102 t103 t104 t105 t106 w0 _ ?side1 ?side2 A2.out).mono ?_); (case side1 => exact CB); (case side2 => exact BB); rintro e KY ⟨rfl, hi, G, X⟩; refine ⟨_, rfl, ?_⟩; replace Y := am (F1.blk X (g' := n0) (o := .cells #[.int .i64 0, .int .i64 0, .int .i64 0, .int .i64 0, .int .i64 0, .string (⟨#[]⟩ : ByteArray)] 28 (0, 0)) (bq Y.out) UA.out (by simp)); replace HK := am (F1.trans dB X (.inl rfl)); replace I := am (G); replace Q1 := am (hi); ) | ((with_reducible refine P2 (N := 3) rfl ?_); refine D3 ?hg (N := 3) ?hd (cs := #[.int .i64 0, .int .i64 0, .int .i64 0, .int .i64 0, .int .i64 0, .string (⟨#[]⟩ : ByteArray)]) (t := 28) ?hr ?_; (case hd => rfl); (case hg => rfl); (case hr => exact Z2); intro z4 hg eK M0 G; replace I := am (T0 BB G); have G8 := am (M0); have uF := am ((bF : w.heap.size ≤ z4)); have sD := am ((Nat.le_trans VG.out (bF : w.heap.size ≤ z4) : w0.heap.size ≤ z4)); replace HK := am (F1.trans dB (F1.of_below G g none) (.inl rfl)); have R6 := am ((V7 : n0 ≠ z4)); have KK := am ((X7 : z4 ≠ n0)); replace Y := am (O0 (bq Y.out) G); have PD := am ((UY : g ≠ z4)); have nC := am ((aZ : z4 ≠ g)); replace Q1 := am (X1.below CB G); clear G M0 hg; have bl3 := KK.out; have bq2 := R6.out; have aa1 := nC.out; have Vt := PD.out; obtain ⟨Pt, As, Mv, Sv, Ms, Sz, Dt, Xx, Fs, Av, Ro, Vq⟩ := S1 G8.out) | ((with_reducible refine H2 (f := 71) rfl ?_); refine G2 (some 9) rfl rfl Try.func71 (by kernel_rfl) rfl #[.pointer (some ⟨g, 0, none⟩)] rfl F2 ?_; (with_reducible refine (PE.calls g t103 t104 t105 t106 t108 t109 t110 t111 t112 w0 _ ?side1 ?side2 A3.out).mono ?_); (case side1 => repeat ((with_reducible first | exact Q1.out | refine X1.far ?_ PD.out _))); (case side2 => repeat ((with_reducible first | exact I.out | refine i4 ?_ sD.out))); rintro e MT ⟨rfl, hi, G, X⟩; refine ⟨_, rfl, ?_⟩; replace Y := am (F1.blk X (g' := n0) (o := .cells #[.int .i64 0, .int .i64 0, .int .i64 0, .int .i64 0, .int .i64 0, .string (⟨#[]⟩ : ByteArray)] 28 (0, 0)) (by refine bq ?_; refine P0 ?_ R6.out _; refine bq ?_; refine P0 ?_ R6.out _; refine bq ?_; refine P0 ?_ R6.out _; refine bq ?_; refine P0 ?_ R6.out _; refine bq ?_; refine P0 ?_ R6.out _; refine bq ?_; refine P0 ?_ R6.out _; exact bq Y.out) UA.out (by simp)); replace G8 := am (F1.blk X (g' := z4) (o := .cells #[.int .i64 t102, .int .i64 0, .int .i64 0, .int .i64 0, .int .i64 0, .string (⟨#[]⟩ : ByteArray)] 28 (0, 0)) (by refine bq ?_; refine J0 (cs := #[.int .i64 t102, .int .i64 0, .int .i64 0, .int .i64 0, .int .i64 0, .string (⟨#[]⟩ : ByteArray)]) ?_ 5 _ rfl; refine bq ?_; refine J0 (cs := #[.int .i64 t102, .int .i64 0, .int .i64 0, .int .i64 0, .int .i64 0, .string (⟨#[]⟩ : ByteArray)]) ?_ 4 _ rfl; refine bq ?_; refine J0 (cs := #[.int .i64 t102, .int .i64 0, .int .i64 0, .int .i64 0, .int .i64 0, .string (⟨#[]⟩ : ByteArray)]) ?_ 3 _ rfl; refine bq ?_; refine J0 (cs := #[.int .i64 t102, .int .i64 0, .int .i64 0, .int .i64 0, .int .i64 0, .string (⟨#[]⟩ : ByteArray)]) ?_ 2 _ rfl; refine bq ?_; refine J0 (cs := #[.int .i64 t102, .int .i64 0, .int .i64 0, .int .i64 0, .int .i64 0, .string (⟨#[]⟩ : ByteArray)]) ?_ 1 _ rfl; refine bq ?_; refine J0 (cs := #[.int .i64 0, .int .i64 0, .int .i64 0, .int .i64 0, .int .i64 0, .string (⟨#[]⟩ : ByteArray)]) ?_ 0 _ rfl; exact bq G8.out) nC.out (by simp)); replace HK := am (F1.trans (by repeat ((with_reducible first | exact HK.out | refine MF ?_ uF.out _))) X (.inl rfl)); replace I := am (G); replace Q1 := am (hi); obtain ⟨lK, ax6⟩ := Q1.out; have vT := D9 lK; have kT := e9 lK; have lU := E9 lK; have uW := g9 lK; have dU := Y0 lK 0; have bS := Y0 lK 1; have mT := Y0 lK 2; have KX := Y0 lK 3; clear lK ax6; obtain ⟨Yq, Ru, Oy, br3, bb4, be7, Jv, Pn, ad0, bs2, bq6, ci8⟩ := S1 G8.out) | ((with_reducible refine H2 (f := 73) rfl ?_); refine G2 (some 50) rfl rfl Try.func73 (by kernel_rfl) rfl #[.pointer (some ⟨g, 0, none⟩)] rfl F2 ?_; (with_reducible refine (zD.calls k g t109 t110 0 t112 JM MD UE L7 dA w0 _ ?side1 ?side2 TN.out).mono ?_); (case side1 => repeat ((with_reducible first | exact Q1.out | apply X1.set_2 | refine X1.far ?_ PD.out _))); (case side2 => repeat ((with_reducible first | exact I.out | refine i4 ?_ (X1.ge Q1.out) | refine i4 ?_ sD.out))); rintro e yM ⟨rfl, hi, G, X⟩; refine ⟨_, rfl, ?_⟩; replace Y := am (F1.blk X (g' := n0) (o := .cells #[.int .i64 0, .int .i64 0, .int .i64 0, .int .i64 0, .int .i64 0, .string (⟨#[]⟩ : ByteArray)] 28 (0, 0)) (by refine bq ?_; refine P0 ?_ R6.out _; refine bq ?_; refine P0 ?_ R6.out _; refine bq ?_; refine P0 ?_ UA.out _; exact bq Y.out) UA.out (by simp)); replace G8 := am (F1.blk X (g' := z4) (o := .cells #[.int .i64 t102, .int .i64 15, .int .i64 0, .int .i64 t108, .int .i64 0, .string (⟨#[]⟩ : ByteArray)] 28 (0, 0)) (by refine bq ?_; refine J0 (cs := #[.int .i64 t102, .int .i64 15, .int .i64 0, .int .i64 0, .int .i64 0, .string (⟨#[]⟩ : ByteArray)]) ?_ 3 _ rfl; refine bq ?_; refine J0 (cs := #[.int .i64 t102, .int .i64 0, .int .i64 0, .int .i64 0, .int .i64 0, .string (⟨#[]⟩ : ByteArray)]) ?_ 1 _ rfl; refine bq ?_; refine P0 ?_ nC.out _; exact bq G8.out) nC.out (by simp)); replace HK := am (F1.trans (by repeat ((with_reducible first | exact HK.out | apply F1.set_ | refine MF ?_ uF.out _))) X (.inl rfl)); replace I := am (G); replace Q1 := am (hi); obtain ⟨Ct, Mt, Ls, fn1, fj5, ew8, Qz, Ku, ae2, en6, dc9, fe0⟩ := S1 G8.out; have Ko := UA.out; have Fy := EI.out; obtain ⟨KN, uO, xN, UO, NO, IN, LN, QN, AO, pO, OO, yO⟩ := S1 Y.out)); refine bodyPost_ret (results_cell_row rfl _ _ n0 28 #[.int .i64 t102, .int .i64 15, .int .i64 0, .int .i64 t108, .int .i64 0, .string JM] (0, 0) _ rfl (by refine bq ?_; refine J0 (cs := #[.int .i64 t102, .int .i64 15, .int .i64 0, .int .i64 t108, .int .i64 0, .string (⟨#[]⟩ : ByteArray)]) ?_ 5 _ rfl; refine bq ?_; refine J0 (cs := #[.int .i64 t102, .int .i64 15, .int .i64 0, .int .i64 t108, .int .i64 0, .string (⟨#[]⟩ : ByteArray)]) ?_ 4 _ rfl; refine bq ?_; refine J0 (cs := #[.int .i64 t102, .int .i64 15, .int .i64 0, .int .i64 0, .int .i64 0, .string (⟨#[]⟩ : ByteArray)]) ?_ 3 _ rfl; refine bq ?_; refine J0 (cs := #[.int .i64 t102, .int .i64 15, .int .i64 0, .int .i64 0, .int .i64 0, .string (⟨#[]⟩ : ByteArray)]) ?_ 2 _ rfl; refine bq ?_; refine J0 (cs := #[.int .i64 t102, .int .i64 0, .int .i64 0, .int .i64 0, .int .i64 0, .string (⟨#[]⟩ : ByteArray)]) ?_ 1 _ rfl; refine bq ?_; refine J0 (cs := #[.int .i64 0, .int .i64 0, .int .i64 0, .int .i64 0, .int .i64 0, .string (⟨#[]⟩ : ByteArray)]) ?_ 0 _ rfl; refine bq ?_; refine P0 ?_ R6.out _; exact bq Y.out) Try.underlying28 rfl (by kernel_rfl)) rfl ?_; exact ⟨by rfl, by repeat ((with_reducible first | exact Q1.out | refine X1.far ?_ EI.out _ | refine X1.far ?_ PD.out _)), by repeat ((with_reducible first | exact I.out | refine i4 ?_ H0.out | refine i4 ?_ sD.out)), by repeat ((with_reducible first | exact HK.out | refine MF ?_ W6.out _ | refine MF ?_ uF.out _))⟩
 rw [if_neg q7] at H; have WI : decide (240 ≤ t108) = false := decide_eq_false q7; clear q7; replace H := L2 H; obtain ⟨⟨g_, ED, PB, C8, oD⟩, Ov, H⟩ := H; have Gy := am Ov; clear Ov; replace H := L2 H; obtain ⟨OB, dS, H⟩ := H; have ZV := am dS; clear dS; by_cases DC : OB = true
 ·subst DC; have H1 : (some (t102, wrap64 (Int.tdiv t108 16), Int.tmod t108 16, g_, 0, (⟨#[]⟩ : ByteArray), ED, PB, C8, oD)) = some (r1, r2, r3, r4, r5, r6, r7, r8, r9, kX) := by rw [if_pos rfl] at H; exact H
  clear H; have H := H1; clear H1; simp only [Option.some.injEq, Prod.mk.injEq] at H; obtain ⟨rfl, rfl, rfl, rfl, rfl, rfl, rfl, rfl, rfl, rfl⟩ := H; go_enter Try.func66, Try.ntmps66; go_wp2_with (first | ((with_reducible refine P2 (N := 2) rfl ?_); refine D3 ?hg (N := 2) ?hd (cs := #[.int .i64 0, .int .i64 0, .int .i64 0, .int .i64 0, .int .i64 0, .string (⟨#[]⟩ : ByteArray)]) (t := 28) ?hr ?_; (case hd => rfl); (case hg => rfl); (case hr => exact Z2); intro n0 hg Jz M0 G; replace I := am (T0 BB G); have Y := am (M0); have W6 := am ((bF : w.heap.size ≤ n0)); have H0 := am ((Nat.le_trans VG.out (bF : w.heap.size ≤ n0) : w0.heap.size ≤ n0)); replace HK := am (F1.trans dB (F1.of_below G g none) (.inl rfl)); have EI := am ((mZ : g ≠ n0)); have UA := am ((QY : n0 ≠ g)); replace Q1 := am (X1.below CB G); clear G M0 hg) | ((with_reducible refine H2 (f := 70) rfl ?_); refine G2 (some 6) rfl rfl Try.func70 (by kernel_rfl) rfl #[.pointer (some ⟨g, 0, none⟩)] rfl F2 ?_; (with_reducible refine (aA.calls k g Y1 U1 V3 z3 t102 t103 t104 t105 t106 w0 _ ?side1 ?side2 A2.out).mono ?_); (case side1 => exact CB); (case side2 => exact BB); rintro e w40 ⟨rfl, hi, G, X⟩; refine ⟨_, rfl, ?_⟩; replace Y := am (F1.blk X (g' := n0) (o := .cells #[.int .i64 0, .int .i64 0, .int .i64 0, .int .i64 0, .int .i64 0, .string (⟨#[]⟩ : ByteArray)] 28 (0, 0)) (bq Y.out) UA.out (by simp)); replace HK := am (F1.trans dB X (.inl rfl)); replace I := am (G); replace Q1 := am (hi); ) | ((with_reducible refine P2 (N := 3) rfl ?_); refine D3 ?hg (N := 3) ?hd (cs := #[.int .i64 0, .int .i64 0, .int .i64 0, .int .i64 0, .int .i64 0, .string (⟨#[]⟩ : ByteArray)]) (t := 28) ?hr ?_; (case hd => rfl); (case hg => rfl); (case hr => exact Z2); intro z4 hg Kz M0 G; replace I := am (T0 BB G); have G8 := am (M0); have uF := am ((bF : w.heap.size ≤ z4)); have sD := am ((Nat.le_trans VG.out (bF : w.heap.size ≤ z4) : w0.heap.size ≤ z4)); replace HK := am (F1.trans dB (F1.of_below G g none) (.inl rfl)); have R6 := am ((V7 : n0 ≠ z4)); have KK := am ((X7 : z4 ≠ n0)); replace Y := am (O0 (bq Y.out) G); have PD := am ((UY : g ≠ z4)); have nC := am ((aZ : z4 ≠ g)); replace Q1 := am (X1.below CB G); clear G M0 hg; have eg2 := KK.out; have ep9 := R6.out; have bx7 := nC.out; have av4 := PD.out; obtain ⟨OX, nX, hX, Ah, Hd, Kj, VW, LX, DV, YZ, Ra, Uj⟩ := S1 G8.out) | ((with_reducible refine H2 (f := 71) rfl ?_); refine G2 (some 9) rfl rfl Try.func71 (by kernel_rfl) rfl #[.pointer (some ⟨g, 0, none⟩)] rfl F2 ?_; (with_reducible refine (PE.calls g t103 t104 t105 t106 t108 t109 t110 t111 t112 w0 _ ?side1 ?side2 A3.out).mono ?_); (case side1 => repeat ((with_reducible first | exact Q1.out | refine X1.far ?_ PD.out _))); (case side2 => repeat ((with_reducible first | exact I.out | refine i4 ?_ sD.out))); rintro e w45 ⟨rfl, hi, G, X⟩; refine ⟨_, rfl, ?_⟩; replace Y := am (F1.blk X (g' := n0) (o := .cells #[.int .i64 0, .int .i64 0, .int .i64 0, .int .i64 0, .int .i64 0, .string (⟨#[]⟩ : ByteArray)] 28 (0, 0)) (by refine bq ?_; refine P0 ?_ R6.out _; refine bq ?_; refine P0 ?_ R6.out _; refine bq ?_; refine P0 ?_ R6.out _; refine bq ?_; refine P0 ?_ R6.out _; refine bq ?_; refine P0 ?_ R6.out _; refine bq ?_; refine P0 ?_ R6.out _; exact bq Y.out) UA.out (by simp)); replace G8 := am (F1.blk X (g' := z4) (o := .cells #[.int .i64 t102, .int .i64 0, .int .i64 0, .int .i64 0, .int .i64 0, .string (⟨#[]⟩ : ByteArray)] 28 (0, 0)) (by refine bq ?_; refine J0 (cs := #[.int .i64 t102, .int .i64 0, .int .i64 0, .int .i64 0, .int .i64 0, .string (⟨#[]⟩ : ByteArray)]) ?_ 5 _ rfl; refine bq ?_; refine J0 (cs := #[.int .i64 t102, .int .i64 0, .int .i64 0, .int .i64 0, .int .i64 0, .string (⟨#[]⟩ : ByteArray)]) ?_ 4 _ rfl; refine bq ?_; refine J0 (cs := #[.int .i64 t102, .int .i64 0, .int .i64 0, .int .i64 0, .int .i64 0, .string (⟨#[]⟩ : ByteArray)]) ?_ 3 _ rfl; refine bq ?_; refine J0 (cs := #[.int .i64 t102, .int .i64 0, .int .i64 0, .int .i64 0, .int .i64 0, .string (⟨#[]⟩ : ByteArray)]) ?_ 2 _ rfl; refine bq ?_; refine J0 (cs := #[.int .i64 t102, .int .i64 0, .int .i64 0, .int .i64 0, .int .i64 0, .string (⟨#[]⟩ : ByteArray)]) ?_ 1 _ rfl; refine bq ?_; refine J0 (cs := #[.int .i64 0, .int .i64 0, .int .i64 0, .int .i64 0, .int .i64 0, .string (⟨#[]⟩ : ByteArray)]) ?_ 0 _ rfl; exact bq G8.out) nC.out (by simp)); replace HK := am (F1.trans (by repeat ((with_reducible first | exact HK.out | refine MF ?_ uF.out _))) X (.inl rfl)); replace I := am (G); replace Q1 := am (hi); obtain ⟨RK, cf0⟩ := Q1.out; have TZ := D9 RK; have Zd := e9 RK; have Oc := E9 RK; have be4 := g9 RK; have Nd := Y0 RK 0; have Me := Y0 RK 1; have Vb := Y0 RK 2; have bc7 := Y0 RK 3; clear RK cf0) | ((with_reducible refine H2 (f := 72) rfl ?_); refine G2 (some 22) rfl rfl Try.func72 (by kernel_rfl) rfl #[.pointer (some ⟨g, 0, none⟩)] rfl F2 ?_; (with_reducible refine (bE.calls g t109 t110 t108 t112 g_ ED PB C8 oD w0 _ ?side1 ?side2 Gy.out).mono ?_); (case side1 => exact Um); (case side2 => repeat ((with_reducible first | exact I.out | refine i4 ?_ (X1.ge Q1.out)))); rintro e Zs ⟨rfl, hi, G, X⟩; refine ⟨_, rfl, ?_⟩; replace Y := am (F1.blk X (g' := n0) (o := .cells #[.int .i64 0, .int .i64 0, .int .i64 0, .int .i64 0, .int .i64 0, .string (⟨#[]⟩ : ByteArray)] 28 (0, 0)) (by refine bq ?_; refine P0 ?_ UA.out _; refine bq ?_; refine P0 ?_ UA.out _; exact bq Y.out) UA.out (by simp)); replace G8 := am (F1.blk X (g' := z4) (o := .cells #[.int .i64 t102, .int .i64 0, .int .i64 0, .int .i64 0, .int .i64 0, .string (⟨#[]⟩ : ByteArray)] 28 (0, 0)) (by refine bq ?_; refine P0 ?_ nC.out _; refine bq ?_; refine P0 ?_ nC.out _; exact bq G8.out) nC.out (by simp)); replace HK := am (F1.trans KZ X (.inl rfl)); replace I := am (G); replace Q1 := am (hi); obtain ⟨ba2, cb4, bj7, bl0, bx5, ba9, bd3, bj6, bh9, bv0, bv9, by3⟩ := S1 G8.out) | ((with_reducible refine H2 (f := 37) rfl ?_); refine G2 (some 28) rfl rfl Try.func37 (by kernel_rfl) rfl #[.int .i64 (wrap64 (Int.tdiv t108 16))] rfl F2 ?_; (with_reducible refine (JC.calls (wrap64 (Int.tdiv t108 16)) true _ ZV.out).mono ?_); rintro e w' ⟨rfl, ⟨nd, rfl⟩⟩; refine ⟨_, rfl, ?_⟩; have Zo := UA.out; have Ax := EI.out; obtain ⟨Fi, Rh, Qa, ab9, Lz, ae1, Vd, Tj, Xd, Wz, ac8, Xz⟩ := S1 Y.out)); refine bodyPost_ret (results_cell_row rfl _ _ n0 28 #[.int .i64 t102, .int .i64 (wrap64 (Int.tdiv t108 16)), .int .i64 (Int.tmod t108 16), .int .i64 g_, .int .i64 0, .string (⟨#[]⟩ : ByteArray)] (0, 0) _ rfl (by refine bq ?_; refine J0 (cs := #[.int .i64 t102, .int .i64 (wrap64 (Int.tdiv t108 16)), .int .i64 (Int.tmod t108 16), .int .i64 g_, .int .i64 0, .string (⟨#[]⟩ : ByteArray)]) ?_ 5 _ rfl; refine bq ?_; refine J0 (cs := #[.int .i64 t102, .int .i64 (wrap64 (Int.tdiv t108 16)), .int .i64 (Int.tmod t108 16), .int .i64 g_, .int .i64 0, .string (⟨#[]⟩ : ByteArray)]) ?_ 4 _ rfl; refine bq ?_; refine J0 (cs := #[.int .i64 t102, .int .i64 (wrap64 (Int.tdiv t108 16)), .int .i64 (Int.tmod t108 16), .int .i64 0, .int .i64 0, .string (⟨#[]⟩ : ByteArray)]) ?_ 3 _ rfl; refine bq ?_; refine J0 (cs := #[.int .i64 t102, .int .i64 (wrap64 (Int.tdiv t108 16)), .int .i64 0, .int .i64 0, .int .i64 0, .string (⟨#[]⟩ : ByteArray)]) ?_ 2 _ rfl; refine bq ?_; refine J0 (cs := #[.int .i64 t102, .int .i64 0, .int .i64 0, .int .i64 0, .int .i64 0, .string (⟨#[]⟩ : ByteArray)]) ?_ 1 _ rfl; refine bq ?_; refine J0 (cs := #[.int .i64 0, .int .i64 0, .int .i64 0, .int .i64 0, .int .i64 0, .string (⟨#[]⟩ : ByteArray)]) ?_ 0 _ rfl; refine bq ?_; refine P0 ?_ R6.out _; refine bq ?_; refine P0 ?_ R6.out _; refine bq ?_; refine P0 ?_ R6.out _; exact bq Y.out) Try.underlying28 rfl (by kernel_rfl)) rfl ?_; exact ⟨by rfl, by repeat ((with_reducible first | exact Q1.out | apply X1.drewN | refine X1.far ?_ EI.out _ | refine X1.far ?_ PD.out _)), by repeat ((with_reducible first | exact I.out | apply q5 | refine i4 ?_ H0.out | refine i4 ?_ sD.out)), by repeat ((with_reducible first | exact HK.out | apply dC | refine MF ?_ W6.out _ | refine MF ?_ uF.out _))⟩
 replace DC := Bool.eq_false_iff.mpr DC; subst DC; have H1 : ((bE.f ED PB C8 oD).bind fun Z8 => (some (t102, wrap64 (Int.tdiv t108 16), Int.tmod t108 16, g_, Z8.1, (⟨#[]⟩ : ByteArray), Z8.2.1, Z8.2.2.1, Z8.2.2.2.1, Z8.2.2.2.2))) = some (r1, r2, r3, r4, r5, r6, r7, r8, r9, kX) := by rw [if_neg (show ¬ (false = true) by decide)] at H; exact H
 clear H; have H := H1; clear H1; replace H := L2 H; obtain ⟨⟨IB, zE, WK, PG, SG⟩, xU, H⟩ := H; have SZ := am xU; clear xU; simp only [Option.some.injEq, Prod.mk.injEq] at H; obtain ⟨rfl, rfl, rfl, rfl, rfl, rfl, rfl, rfl, rfl, rfl⟩ := H; go_enter Try.func66, Try.ntmps66; go_wp2_with (first | ((with_reducible refine P2 (N := 2) rfl ?_); refine D3 ?hg (N := 2) ?hd (cs := #[.int .i64 0, .int .i64 0, .int .i64 0, .int .i64 0, .int .i64 0, .string (⟨#[]⟩ : ByteArray)]) (t := 28) ?hr ?_; (case hd => rfl); (case hg => rfl); (case hr => exact Z2); intro n0 hg w52 M0 G; replace I := am (T0 BB G); have Y := am (M0); have W6 := am ((bF : w.heap.size ≤ n0)); have H0 := am ((Nat.le_trans VG.out (bF : w.heap.size ≤ n0) : w0.heap.size ≤ n0)); replace HK := am (F1.trans dB (F1.of_below G g none) (.inl rfl)); have EI := am ((mZ : g ≠ n0)); have UA := am ((QY : n0 ≠ g)); replace Q1 := am (X1.below CB G); clear G M0 hg) | ((with_reducible refine H2 (f := 70) rfl ?_); refine G2 (some 6) rfl rfl Try.func70 (by kernel_rfl) rfl #[.pointer (some ⟨g, 0, none⟩)] rfl F2 ?_; (with_reducible refine (aA.calls k g Y1 U1 V3 z3 t102 t103 t104 t105 t106 w0 _ ?side1 ?side2 A2.out).mono ?_); (case side1 => exact CB); (case side2 => exact BB); rintro e Qd ⟨rfl, hi, G, X⟩; refine ⟨_, rfl, ?_⟩; replace Y := am (F1.blk X (g' := n0) (o := .cells #[.int .i64 0, .int .i64 0, .int .i64 0, .int .i64 0, .int .i64 0, .string (⟨#[]⟩ : ByteArray)] 28 (0, 0)) (bq Y.out) UA.out (by simp)); replace HK := am (F1.trans dB X (.inl rfl)); replace I := am (G); replace Q1 := am (hi); ) | ((with_reducible refine P2 (N := 3) rfl ?_); refine D3 ?hg (N := 3) ?hd (cs := #[.int .i64 0, .int .i64 0, .int .i64 0, .int .i64 0, .int .i64 0, .string (⟨#[]⟩ : ByteArray)]) (t := 28) ?hr ?_; (case hd => rfl); (case hg => rfl); (case hr => exact Z2); intro z4 hg Pb M0 G; replace I := am (T0 BB G); have G8 := am (M0); have uF := am ((bF : w.heap.size ≤ z4)); have sD := am ((Nat.le_trans VG.out (bF : w.heap.size ≤ z4) : w0.heap.size ≤ z4)); replace HK := am (F1.trans dB (F1.of_below G g none) (.inl rfl)); have R6 := am ((V7 : n0 ≠ z4)); have KK := am ((X7 : z4 ≠ n0)); replace Y := am (O0 (bq Y.out) G); have PD := am ((UY : g ≠ z4)); have nC := am ((aZ : z4 ≠ g)); replace Q1 := am (X1.below CB G); clear G M0 hg; have cc1 := KK.out; have bz5 := R6.out; have ay9 := nC.out; have bx8 := PD.out; obtain ⟨Ij, Ob, Of, St, Nw, Gq, Dg, Bi, Hi, Gp, aa5, ab8⟩ := S1 G8.out) | ((with_reducible refine H2 (f := 71) rfl ?_); refine G2 (some 9) rfl rfl Try.func71 (by kernel_rfl) rfl #[.pointer (some ⟨g, 0, none⟩)] rfl F2 ?_; (with_reducible refine (PE.calls g t103 t104 t105 t106 t108 t109 t110 t111 t112 w0 _ ?side1 ?side2 A3.out).mono ?_); (case side1 => repeat ((with_reducible first | exact Q1.out | refine X1.far ?_ PD.out _))); (case side2 => repeat ((with_reducible first | exact I.out | refine i4 ?_ sD.out))); rintro e uY ⟨rfl, hi, G, X⟩; refine ⟨_, rfl, ?_⟩; replace Y := am (F1.blk X (g' := n0) (o := .cells #[.int .i64 0, .int .i64 0, .int .i64 0, .int .i64 0, .int .i64 0, .string (⟨#[]⟩ : ByteArray)] 28 (0, 0)) (by refine bq ?_; refine P0 ?_ R6.out _; refine bq ?_; refine P0 ?_ R6.out _; refine bq ?_; refine P0 ?_ R6.out _; refine bq ?_; refine P0 ?_ R6.out _; refine bq ?_; refine P0 ?_ R6.out _; refine bq ?_; refine P0 ?_ R6.out _; exact bq Y.out) UA.out (by simp)); replace G8 := am (F1.blk X (g' := z4) (o := .cells #[.int .i64 t102, .int .i64 0, .int .i64 0, .int .i64 0, .int .i64 0, .string (⟨#[]⟩ : ByteArray)] 28 (0, 0)) (by refine bq ?_; refine J0 (cs := #[.int .i64 t102, .int .i64 0, .int .i64 0, .int .i64 0, .int .i64 0, .string (⟨#[]⟩ : ByteArray)]) ?_ 5 _ rfl; refine bq ?_; refine J0 (cs := #[.int .i64 t102, .int .i64 0, .int .i64 0, .int .i64 0, .int .i64 0, .string (⟨#[]⟩ : ByteArray)]) ?_ 4 _ rfl; refine bq ?_; refine J0 (cs := #[.int .i64 t102, .int .i64 0, .int .i64 0, .int .i64 0, .int .i64 0, .string (⟨#[]⟩ : ByteArray)]) ?_ 3 _ rfl; refine bq ?_; refine J0 (cs := #[.int .i64 t102, .int .i64 0, .int .i64 0, .int .i64 0, .int .i64 0, .string (⟨#[]⟩ : ByteArray)]) ?_ 2 _ rfl; refine bq ?_; refine J0 (cs := #[.int .i64 t102, .int .i64 0, .int .i64 0, .int .i64 0, .int .i64 0, .string (⟨#[]⟩ : ByteArray)]) ?_ 1 _ rfl; refine bq ?_; refine J0 (cs := #[.int .i64 0, .int .i64 0, .int .i64 0, .int .i64 0, .int .i64 0, .string (⟨#[]⟩ : ByteArray)]) ?_ 0 _ rfl; exact bq G8.out) nC.out (by simp)); replace HK := am (F1.trans (by repeat ((with_reducible first | exact HK.out | refine MF ?_ uF.out _))) X (.inl rfl)); replace I := am (G); replace Q1 := am (hi); obtain ⟨BK, bh4⟩ := Q1.out; have ZU := D9 BK; have GU := e9 BK; have QU := E9 BK; have Da := g9 BK; have VS := Y0 BK 0; have IU := Y0 BK 1; have iS := Y0 BK 2; have Ri := Y0 BK 3; clear BK bh4) | ((with_reducible refine H2 (f := 72) rfl ?_); refine G2 (some 22) rfl rfl Try.func72 (by kernel_rfl) rfl #[.pointer (some ⟨g, 0, none⟩)] rfl F2 ?_; (with_reducible refine (bE.calls g t109 t110 t108 t112 g_ ED PB C8 oD w0 _ ?side1 ?side2 Gy.out).mono ?_); (case side1 => exact Um); (case side2 => repeat ((with_reducible first | exact I.out | refine i4 ?_ (X1.ge Q1.out)))); rintro e Tz ⟨rfl, hi, G, X⟩; refine ⟨_, rfl, ?_⟩; replace Y := am (F1.blk X (g' := n0) (o := .cells #[.int .i64 0, .int .i64 0, .int .i64 0, .int .i64 0, .int .i64 0, .string (⟨#[]⟩ : ByteArray)] 28 (0, 0)) (by refine bq ?_; refine P0 ?_ UA.out _; refine bq ?_; refine P0 ?_ UA.out _; exact bq Y.out) UA.out (by simp)); replace G8 := am (F1.blk X (g' := z4) (o := .cells #[.int .i64 t102, .int .i64 0, .int .i64 0, .int .i64 0, .int .i64 0, .string (⟨#[]⟩ : ByteArray)] 28 (0, 0)) (by refine bq ?_; refine P0 ?_ nC.out _; refine bq ?_; refine P0 ?_ nC.out _; exact bq G8.out) nC.out (by simp)); replace HK := am (F1.trans KZ X (.inl rfl)); replace I := am (G); replace Q1 := am (hi); obtain ⟨ac4, Er, Xs, cg1, bu1, bq5, Cy, Uo, On, br4, bi6, bx9⟩ := S1 G8.out) | ((with_reducible refine H2 (f := 37) rfl ?_); refine G2 (some 28) rfl rfl Try.func37 (by kernel_rfl) rfl #[.int .i64 (wrap64 (Int.tdiv t108 16))] rfl F2 ?_; (with_reducible refine (JC.calls (wrap64 (Int.tdiv t108 16)) false _ ZV.out).mono ?_); rintro e w' ⟨rfl, ⟨nd, rfl⟩⟩; refine ⟨_, rfl, ?_⟩) | ((with_reducible refine H2 (f := 72) rfl ?_); refine G2 (some 31) rfl rfl Try.func72 (by kernel_rfl) rfl #[.pointer (some ⟨g, 0, none⟩)] rfl F2 ?_; (with_reducible refine (bE.calls g ED PB C8 oD IB zE WK PG SG w0 _ ?side1 ?side2 SZ.out).mono ?_); (case side1 => repeat ((with_reducible first | exact Q1.out | apply X1.drewN | refine X1.far ?_ PD.out _))); (case side2 => repeat ((with_reducible first | exact I.out | apply q5 | refine i4 ?_ sD.out))); rintro e Pf ⟨rfl, hi, G, X⟩; refine ⟨_, rfl, ?_⟩; replace Y := am (F1.blk X (g' := n0) (o := .cells #[.int .i64 0, .int .i64 0, .int .i64 0, .int .i64 0, .int .i64 0, .string (⟨#[]⟩ : ByteArray)] 28 (0, 0)) (by refine bq ?_; refine P0 ?_ R6.out _; refine bq ?_; refine P0 ?_ R6.out _; refine bq ?_; refine P0 ?_ R6.out _; exact bq Y.out) UA.out (by simp)); replace G8 := am (F1.blk X (g' := z4) (o := .cells #[.int .i64 t102, .int .i64 (wrap64 (Int.tdiv t108 16)), .int .i64 (Int.tmod t108 16), .int .i64 g_, .int .i64 0, .string (⟨#[]⟩ : ByteArray)] 28 (0, 0)) (by refine bq ?_; refine J0 (cs := #[.int .i64 t102, .int .i64 (wrap64 (Int.tdiv t108 16)), .int .i64 (Int.tmod t108 16), .int .i64 0, .int .i64 0, .string (⟨#[]⟩ : ByteArray)]) ?_ 3 _ rfl; refine bq ?_; refine J0 (cs := #[.int .i64 t102, .int .i64 (wrap64 (Int.tdiv t108 16)), .int .i64 0, .int .i64 0, .int .i64 0, .string (⟨#[]⟩ : ByteArray)]) ?_ 2 _ rfl; refine bq ?_; refine J0 (cs := #[.int .i64 t102, .int .i64 0, .int .i64 0, .int .i64 0, .int .i64 0, .string (⟨#[]⟩ : ByteArray)]) ?_ 1 _ rfl; exact bq G8.out) nC.out (by simp)); replace HK := am (F1.trans (by repeat ((with_reducible first | exact HK.out | apply dC | refine MF ?_ uF.out _))) X (.inl rfl)); replace I := am (G); replace Q1 := am (hi); obtain ⟨bp0, bk5, cb2, bm7, ce7, ay7, bn2, cd1, aw4, bg7, av3, az2⟩ := S1 G8.out; have ce5 := UA.out; have cf6 := EI.out; obtain ⟨EY, iX, JX, Bz, Bq, Ot, aX, TV, jX, Ft, Gv, Yw⟩ := S1 Y.out)); refine bodyPost_ret (results_cell_row rfl _ _ n0 28 #[.int .i64 t102, .int .i64 (wrap64 (Int.tdiv t108 16)), .int .i64 (Int.tmod t108 16), .int .i64 g_, .int .i64 IB, .string (⟨#[]⟩ : ByteArray)] (0, 0) _ rfl (by refine bq ?_; refine J0 (cs := #[.int .i64 t102, .int .i64 (wrap64 (Int.tdiv t108 16)), .int .i64 (Int.tmod t108 16), .int .i64 g_, .int .i64 IB, .string (⟨#[]⟩ : ByteArray)]) ?_ 5 _ rfl; refine bq ?_; refine J0 (cs := #[.int .i64 t102, .int .i64 (wrap64 (Int.tdiv t108 16)), .int .i64 (Int.tmod t108 16), .int .i64 g_, .int .i64 0, .string (⟨#[]⟩ : ByteArray)]) ?_ 4 _ rfl; refine bq ?_; refine J0 (cs := #[.int .i64 t102, .int .i64 (wrap64 (Int.tdiv t108 16)), .int .i64 (Int.tmod t108 16), .int .i64 0, .int .i64 0, .string (⟨#[]⟩ : ByteArray)]) ?_ 3 _ rfl; refine bq ?_; refine J0 (cs := #[.int .i64 t102, .int .i64 (wrap64 (Int.tdiv t108 16)), .int .i64 0, .int .i64 0, .int .i64 0, .string (⟨#[]⟩ : ByteArray)]) ?_ 2 _ rfl; refine bq ?_; refine J0 (cs := #[.int .i64 t102, .int .i64 0, .int .i64 0, .int .i64 0, .int .i64 0, .string (⟨#[]⟩ : ByteArray)]) ?_ 1 _ rfl; refine bq ?_; refine J0 (cs := #[.int .i64 0, .int .i64 0, .int .i64 0, .int .i64 0, .int .i64 0, .string (⟨#[]⟩ : ByteArray)]) ?_ 0 _ rfl; refine bq ?_; refine P0 ?_ R6.out _; exact bq Y.out) Try.underlying28 rfl (by kernel_rfl)) rfl ?_; exact ⟨by rfl, by repeat ((with_reducible first | exact Q1.out | refine X1.far ?_ EI.out _ | refine X1.far ?_ PD.out _)), by repeat ((with_reducible first | exact I.out | refine i4 ?_ H0.out | refine i4 ?_ sD.out)), by repeat ((with_reducible first | exact HK.out | refine MF ?_ W6.out _ | refine MF ?_ uF.out _))⟩
def M_.l0 : Nat → ByteArray → List (N0) → ByteArray → Int → Int → Option ((List (N0)) × Int × Int)
 | 0, _, _, _, _, _ => none
 | k + 1, x0, x5, y0, y1, y2 => if y1 < (x0.size : Int) then ((mH.f k y0 y1 y2 0).bind fun b => (if b.2.2.2.2.2.2.2.2.2 = 0 then (if x5.length < 2513169434916 then (M_.l0 k x0 (x5 ++ [(⟨b.1, b.2.1, b.2.2.1, b.2.2.2.1, b.2.2.2.2.1, b.2.2.2.2.2.1⟩ : N0)]) b.2.2.2.2.2.2.1 b.2.2.2.2.2.2.2.1 b.2.2.2.2.2.2.2.2.1) else (none)) else (some (([] : List (N0)), y1, b.2.2.2.2.2.2.2.2.2)))) else (some (x5, 0, 0))
def M_.f (k : Nat) (a0 : ByteArray) : Option ((List (N0)) × Int × Int) := M_.l0 k a0 ([] : List (N0)) a0 0 0
theorem M_.mono_l : ∀ k, (∀ y0 y1 y2 y3 y4, F0 (M_.l0 k y0 y1 y2 y3 y4) (M_.l0 (k + 1) y0 y1 y2 y3 y4))
 | 0 => fun _ _ _ _ _ r h => by simp [M_.l0] at h
 | k + 1 => by
  have O2 := M_.mono_l k
  ·intro y0 y1 y2 y3 y4
   unfold M_.l0
   repeat' first
   | (with_reducible exact O2 _ _ _ _ _)
   | (with_reducible exact mH.mono _ _ _ _ _)
   | (with_reducible exact F0.refl _)
   | (with_reducible exact F0.none _)
   | (with_reducible refine F0.ite ?_ ?_)
   | (with_reducible refine F0.bind ?_ (fun _ => ?_))
   | exact O2 _ _ _ _ _
   | exact mH.mono _ _ _ _ _
   | exact F0.none _
   | refine F0.ite ?_ ?_
   | refine F0.bind ?_ (fun _ => ?_)
theorem M_.mono : ∀ a0 k, F0 (M_.f k a0) (M_.f (k + 1) a0) := fun a0 k => M_.mono_l k a0 [] a0 0 0
set_option maxHeartbeats 8000000 in
set_option maxRecDepth 100000 in
theorem M_.calls (k : Nat) (a0 : ByteArray) (r1 : List (N0)) (r2 : Int) (r3 : Int) (w : World) (h : M_.f k a0 = some (r1, r2, r3)) :
 Calls Try.prog 56 #[.string a0] w fun e w' => ∃ jM : Value, e = .returned (.tuple #[jM, .int .i64 r2, .int .i64 r3]) ∧ Kd.R L3 28 w' w.heap.size (fun _ => True) jM r1 ∧ Below w.heap.size w w' := by
 have WB := Try.underlying28; have er2 := Try.underlying86; have HB0 := am (Below.refl w.heap.size w); have H := h; unfold M_.f at H; clear h; have H' := am H; clear H; have HS := am (X1.new w w a0 0 0 0 (Below.refl _ _)); go_enter Try.func56, Try.ntmps56; go_wp2; go_loopg [5] k (fun kq v5 w' => ∃ (E0 : List (N0)) (y0 : ByteArray) (y1 y2 : Int), Aside0 (M_.l0 kq a0 E0 y0 y1 y2 = some (r1, r2, r3)) ∧ Aside0 (kq ≤ k) ∧ Aside0 (Kd.R L3 28 w' w.heap.size (fun _ => True) v5 E0) ∧ Aside0 (X1 w w' w.heap.size y0 y1 y2 0) ∧ Aside0 (Below w.heap.size w w'))
 case atStart => exact ⟨([] : List (N0)), a0, 0, 0, H', ⟨Nat.le_refl _⟩, ⟨Kd.fI _ _ _ _ _⟩, HS, ⟨(Below.refl _ _).alloc (Nat.le_refl _) _⟩⟩
 case round =>
  clear H' HS HB0; obtain ⟨E0, y0, y1, y2, HA, S4, V5, HS, I⟩ := hrel; cases gk with
  | zero => exact absurd HA.out (by simp [M_.l0])
  | succ k1 =>
   have H := HA.out; clear HA; simp only [M_.l0] at H; have cy1 := e9 HS.out.1; by_cases c2 : y1 < (a0.size : Int); rotate_left
   ·rw [if_neg c2] at H; have G9 : decide (y1 < (a0.size : Int)) = false := decide_eq_false c2; clear c2; simp only [Option.some.injEq, Prod.mk.injEq] at H; obtain ⟨rfl, rfl, rfl⟩ := H; go_wp2; go_ret3; exact ⟨_, rfl, V5.out, I.out⟩
   rw [if_pos c2] at H; have G9 : decide (y1 < (a0.size : Int)) = true := decide_eq_true c2; clear c2; replace H := L2 H; obtain ⟨⟨t1, t2, t3, t4, t5, t6, s1, s2, s3, s4⟩, Q_, H⟩ := H; try dsimp -simprocs only at H
   have A3 := am Q_; clear Q_; have H' := am H; clear H; go_wp2_with fail; refine (mH.calls k1 w.heap.size y0 y1 y2 0 t1 t2 t3 t4 t5 t6 s1 s2 s3 s4 w _ HS.out I.out A3.out).mono ?_; rintro e w6 ⟨rfl, hi, G, X⟩; have Mj := am (Kd.cx0 (Kd.kA V5.out HS.out.1 (by decide)) X (fun _ X => X.2)); have Xf := am hi; have TS := am G; clear hi G X V5 HS I cy1; have ce : w6.cell? ⟨w.heap.size, 3, none⟩ = some (.int .i64 s4) := g9 Xf.out.1; have l4 : w.heap.size < w6.heap.size := X1.lt Xf.out; have J8 : w.heap.size ≠ w6.heap.size := Nat.ne_of_lt l4; have H := H'.out; clear H'; by_cases c4 : s4 = 0; rotate_left
   ·rw [if_neg c4] at H; have RE : (s4 != 0) = true := bne_iff_ne.mpr c4; simp only [Option.some.injEq, Prod.mk.injEq] at H; obtain ⟨rfl, rfl, rfl⟩ := H; go_wp2_with fail; go_quiet (fail); go_wp2_with fail; go_ret3; exact ⟨_, rfl, Kd.fI _ _ _ _ _, q5 (I6 TS.out _) _⟩
   rw [if_pos c4] at H; by_cases c5 : E0.length < 2513169434916; rotate_left
   ·rw [if_neg c5] at H; exact absurd H (by simp)
   rw [if_pos c5] at H; have RE : (s4 != 0) = false := bne_eq_false_iff_eq.mpr c4; have LM := am c5; have H' := am H; have C4 := am c4; clear H c4 c5; have Vp := am (Kd.Y5 (Kd.GE (o := .cells #[.int .i64 t1, .int .i64 t2, .int .i64 t3, .int .i64 t4, .int .i64 t5, .string t6] 28) Mj.out) (fun _ _ => trivial) : Kd.R L3 28 _ w.heap.size (fun _ => True) u5 E0); have Rv := am (Xf.out.alloc (.cells #[.int .i64 t1, .int .i64 t2, .int .i64 t3, .int .i64 t4, .int .i64 t5, .string t6] 28)); have HB7 := am (I6 TS.out (.cells #[.int .i64 t1, .int .i64 t2, .int .i64 t3, .int .i64 t4, .int .i64 t5, .string t6] 28)); go_wp2_with (((with_reducible refine O_ (b := .append) (xs := #[.tmp 35, .tmp 37]) rfl ?_); at_builtin; go_loud (refine Kd.IE L3 (w0 := w) w.heap.size rfl (.tmp 35) (.tmp 37) 30 28 (.agg #[(.int .i64 0), (.int .i64 0), (.int .i64 0), (.int .i64 0), (.int .i64 0), (.string ⟨#[]⟩)]) 56 rfl Try.underlying30 rV rfl (by decide) (by omega) u5 E0 (⟨t1, t2, t3, t4, t5, t6⟩ : N0) [.int .i64 t1, .int .i64 t2, .int .i64 t3, .int .i64 t4, .int .i64 t5, .string t6] (fun _ => True) (fun _ => False) rfl Y9 ?aP (fun _ X => X.elim) ?aF ?aO ?aB ?aS ?aL ?_); (case aP => exact QJ _ _ _ (⟨t1, t2, t3, t4, t5, t6⟩ : N0)); (case aF => exact (fun _ _ => trivial)); (case aO => exact Vp.out); (case aB => exact HB7.out); (case aS => exact S3 HB7.out); (case aL => have := LM.out; omega); intro v9 w9 ho G hg O1; have HO9 := am ho; have HB9 := am G; have HS9 := am (Rv.out.grown hg (Kd.n9 Vp.out Rv.out.1 (by decide))); clear ho G hg O1)); go_roundg k1
   case measure => have := S4.out; omega
   case rel => exact ⟨_, s1, s2, s3, H', ⟨C_⟩, HO9, ⟨by have h9 := HS9.out; rw [C4.out] at h9; exact h9⟩, HB9⟩
end Go.Proofs.Ytdmnknhlibaaoaa.M
namespace Go.Proofs.Ytdmnknhlibaaoaa.M
open Go.RowKit Go.Proofs.YtdmnknhlibaaoaaW.PrintWords Go.Proofs.YtdmnknhlibaaoaaW.PrintLast Go.Proofs.YtdmnknhlibaaoaaW.PrintMore
set_option linter.unusedVariables false
set_option linter.unusedSimpArgs false
def jF (k : Nat) (s : ByteArray) (p : Int) : Option (Except (Int × Int) (List N0 × Int)) :=
 if (s.size : Int) - p < 4 then some (.error (s.size, 152))
 else if (s.size : Int) - (p + 4) < 4 then some (.error (s.size, 152))
 else if (s.size : Int) - (p + 8) < b8 (s.extract (p + 4).toNat (p + 8).toNat) 4 then some (.error (s.size, 152))
 else if (s.extract p.toNat (p + 4).toNat).toList = ([77, 84, 114, 107] : List UInt8) then
  (M_.f k (s.extract (p + 8).toNat (p + 8 + b8 (s.extract (p + 4).toNat (p + 8).toNat) 4).toNat)).bind fun d =>
   if d.2.2 = 0 then (CD.f k d.1).bind fun b => if b = true then some (.ok (d.1, p + 8 + b8 (s.extract (p + 4).toNat (p + 8).toNat) 4)) else some (.error (p + 8, 160))
   else some (.error (wrap64 (p + 8 + d.2.1), d.2.2))
 else some (.ok ([], p + 8 + b8 (s.extract (p + 4).toNat (p + 8).toNat) 4))
def vZ (s : ByteArray) (g : Nat) (w0 w : World) (r : Except (Int × Int) (List N0 × Int)) (e : Ending) (w' : World) : Prop := Below w0.heap.size w0 w' ∧ F1 w w' g none ∧
 (match r with
 | .error (a, c) => e = gone a c
 | .ok (l, q) => ∃ v, e = .returned v ∧ (l = [] → v = .slice none 0 0) ∧ Kd.R L3 28 w' w.heap.size (fun _ => True) v l ∧ W4 w0 w' g s q)
set_option maxHeartbeats 8000000 in
set_option maxRecDepth 100000 in
theorem cw9 (k : Nat) (g : Nat) (s : ByteArray) (p : Int) (r : Except (Int × Int) (List N0 × Int)) (w0 w : World) (hI : W4 w0 w g s p) (hB : Below w0.heap.size w0 w) (hp : 0 ≤ p ∧ p ≤ s.size) (hs : s.size ≤ 100000) (h : jF k s p = some r) :
 Calls Try.prog 33 #[.pointer (some ⟨g, 0, none⟩)] w (vZ s g w0 w r) := by
 have Cc : ∀ (W : World) (t : ByteArray), (convert 9 39 (.string t)).run Try.prog W = .ok (.slice (some ⟨W.heap.size, 0, none⟩) t.size (grownCap W t.size 0 5)) (Lib.bytesWorld W 5 t) := fun W t => Lib.run_convert_string_bytes W 9 39 5 t Try.underlying9 Try.underlying39 Try.underlying5
 have HI := am hI
 have I := am hB
 have H := am h
 clear hI hB h
 by_cases c1 : (s.size : Int) - p < 4
 ·have hr : r = .error ((s.size : Int), 152) := by have := H.out; unfold jF at this; rw [if_pos c1] at this; exact (Option.some.inj this).symm
  subst hr
  go_enter Try.func33, Try.ntmps33
  go_wp2_with fail
  go_at_call 55
  refine (jZ g s p 4 w0 w HI.out I.out hp hs (by omega)).mono ?_
  rintro e w1 ⟨G, X, ⟨_, he⟩ | ⟨hh, _⟩⟩
  ·have HE := am (show vZ s g w0 w (.error ((s.size : Int), 152)) e w1 from ⟨G, X, he⟩)
   clear G X
   simp only [gone] at he
   subst he
   go_wp2_with fail
   exact ⟨rfl, HE.out⟩
  ·omega
 ·have C1 := am c1
  clear c1
  go_enter Try.func33, Try.ntmps33
  go_wp2_with fail
  go_at_call 55
  refine (jZ g s p 4 w0 w HI.out I.out hp hs (by omega)).mono ?_
  rintro e w1 ⟨G, X, ⟨hh, _⟩ | ⟨_, he, hi⟩⟩
  ·have := C1.out; omega
  subst he
  have Vx := am hi
  have fW := am G
  have S4 := am X
  clear hi G X HI I
  go_wp2_with fail
  go_at_call 55
  refine (jZ g s (p + 4) 4 w0 w1 Vx.out fW.out (by have := C1.out; omega) hs (by omega)).mono ?_
  by_cases c2 : (s.size : Int) - (p + 4) < 4
  ·have hr : r = .error ((s.size : Int), 152) := by have := H.out; unfold jF at this; rw [if_neg (by have := C1.out; omega), if_pos c2] at this; exact (Option.some.inj this).symm
   subst hr
   rintro e w2 ⟨G, X, ⟨_, he⟩ | ⟨hh, _⟩⟩
   ·have HE := am (show vZ s g w0 w (.error ((s.size : Int), 152)) e w2 from ⟨G, S4.out.trans X (.inl rfl), he⟩)
    clear G X
    simp only [gone] at he
    subst he
    go_wp2_with fail
    exact ⟨rfl, HE.out⟩
   ·omega
  have C2 := am c2
  clear c2
  rintro e w2 ⟨G, X, ⟨hh, _⟩ | ⟨_, he, hi⟩⟩
  ·have := C2.out; omega
  rw [show p + 4 + 4 = p + 8 by omega] at he hi
  obtain ⟨t, ht⟩ : ∃ t : ByteArray, t = s.extract (p + 4).toNat (p + 8).toNat := ⟨_, rfl⟩
  have hts : t.size = 4 := by rw [ht]; simp [ByteArray.size_extract]; have := C2.out; omega
  have hid : ∃ id : ByteArray, id = s.extract p.toNat (p + 4).toNat := ⟨_, rfl⟩
  obtain ⟨id, hid⟩ := hid
  rw [← ht] at he
  rw [← hid]
  subst he
  have GY := am hi
  have bV := am G
  have TA := am (S4.out.trans X (.inl rfl))
  have HT := am ht
  have HID := am hid
  clear hi G X Vx fW S4 ht hid
  go_wp2
  go_loopw [4, 18] (fun n i wr => ∃ j : Nat, j ≤ 4 ∧ n = .int .i64 (b8 t j) ∧ i = .int .i64 (j : Int) ∧ wr = Lib.bytesWorld w2 5 t) (fun _ i _ => 4 - (intOf i).toNat)
  case atStart => exact ⟨0, by omega, rfl, rfl, rfl⟩
  case round =>
   obtain ⟨j, hj, rfl, rfl, rfl⟩ := hrel
   by_cases l4 : j < 4
   ·have EG := cv7 w2 t j (by omega)
    have hd : decide ((j : Int) < 4) = true := decide_eq_true (by omega)
    have IA := aD t (j : Int)
    have EQ : wrap64 (bt t (j : Int)) = bt t (j : Int) := by unfold wrap64; omega
    go_wp2
    go_roundw
    case rel => exact ⟨j + 1, by omega, by rw [b8, fB, B3], by go_num, trivial⟩
    case measure => simp [intOf]; omega
   ·obtain rfl : j = 4 := by omega
    obtain ⟨n, hn⟩ : ∃ n : Int, n = b8 t 4 := ⟨_, rfl⟩
    have Ad := (qZ t).2.2.2
    rw [← hn] at Ad
    rw [← hn]
    have Ph : W4 w0 (Lib.bytesWorld w2 5 t) g s (p + 8) := ⟨(Lib.bytesWorld_at_old w2 5 t g GY.out.lt).trans GY.out.1, GY.out.2⟩
    have xW := am Ph
    have UQ := am (ag1 bV.out bV.out.size 5 t)
    have KC := am (TA.out.trans (F1.of_below (ag1 (Below.refl w2.heap.size w2) (Nat.le_refl _) 5 t) g none) (.inl rfl))
    have uI := rL Ph.1
    have HN := am hn
    clear GY bV TA Ph hn
    go_wp2_with fail
    have hK := H.out
    unfold jF at hK
    rw [if_neg (by have := C1.out; omega), if_neg (by have := C2.out; omega), ← HT.out, ← HN.out, ← HID.out] at hK
    have HH := am hK
    clear hK H
    go_at_call 55
    refine (jZ g s (p + 8) n w0 _ xW.out UQ.out (by have := C2.out; omega) hs (by omega)).mono ?_
    by_cases c3 : (s.size : Int) - (p + 8) < n
    ·have hr : r = .error ((s.size : Int), 152) := by have := HH.out; rw [if_pos c3] at this; exact (Option.some.inj this).symm
     subst hr
     rintro e w3 ⟨G, X, ⟨_, he⟩ | ⟨hh, _⟩⟩
     ·have HE := am (show vZ s g w0 w (.error ((s.size : Int), 152)) e w3 from ⟨G, KC.out.trans X (.inl rfl), he⟩)
      clear G X
      simp only [gone] at he
      subst he
      go_wp2_with fail
      exact ⟨rfl, HE.out⟩
     ·omega
    have hK := HH.out
    rw [if_neg c3] at hK
    have HH := am hK
    have C3 := am c3
    clear c3 hK
    rintro e w3 ⟨G, X, ⟨hh, _⟩ | ⟨_, he, hi⟩⟩
    ·have := C3.out; omega
    obtain ⟨d, UX⟩ : ∃ d : ByteArray, d = s.extract (p + 8).toNat (p + 8 + n).toNat := ⟨_, rfl⟩
    rw [← UX] at he
    subst he
    have hK := HH.out
    rw [← UX] at hK
    have Lu := am hi
    have Wn := am G
    have Fa := am (KC.out.trans X (.inl rfl))
    clear hi G X xW UQ KC uI HH UX
    by_cases c4 : id.toList = ([77, 84, 114, 107] : List UInt8)
    ·rw [if_pos c4] at hK
     have T7 : (id.toList == ([77, 84, 114, 107] : List UInt8)) = true := beq_iff_eq.mpr c4
     have RE : (id.toList != ([77, 84, 114, 107] : List UInt8)) = false := bne_eq_false_iff_eq.mpr c4
     clear c4
     obtain ⟨⟨l, q, x⟩, hD, hR⟩ := Option.bind_eq_some_iff.mp hK
     replace hR : (if x = 0 then (CD.f k l).bind fun b => if b = true then some (Except.ok (l, p + 8 + n)) else some (Except.error (p + 8, 160)) else some (Except.error (wrap64 (p + 8 + q), x))) = some r := hR
     have HD := am hD
     have HR := am hR
     clear hK hD hR
     go_wp2_with fail
     go_at_call 56
     refine (M_.calls k d l q x _ HD.out).mono ?_
     rintro e w4 ⟨v, rfl, ho, G⟩
     obtain ⟨A, cap, rfl⟩ := Kd.Q9 ho
     have HO := am ho
     have HI5 := am (Lu.out.below G)
     have Np := am (T0 Wn.out G)
     have HK5 := am (Fa.out.trans (F1.of_below G g none) (.inl rfl))
     have YF := Fa.out.1
     clear ho G
     by_cases c5 : x = 0
     ·have hR := HR.out
      rw [if_pos c5] at hR
      have qC : (x == 0) = true := beq_iff_eq.mpr c5
      have DF : (x != 0) = false := bne_eq_false_iff_eq.mpr c5
      clear c5
      obtain ⟨b, hE, hR⟩ := Option.bind_eq_some_iff.mp hR
      have HE := am hE
      have Ho := am hR
      clear hE hR HR
      go_wp2_with fail
      go_at_call 40
      refine (CD.calls k A cap l b _ (Kd.n_ HO.out).2.2 (Kd.n_ HO.out).2.1 HE.out).mono ?_
      rintro e w5 ⟨rfl, G⟩
      have HI6 := am (HI5.out.below G)
      have TS := am (T0 Np.out G)
      have HK6 := am (HK5.out.trans (F1.of_below G g none) (.inl rfl))
      have Mj := am (Kd.j7 (Kd.j9 HO.out YF) G)
      clear G YF
      cases b with
      | true =>
       have hr : r = .ok (l, p + 8 + n) := by have := Ho.out; rw [if_pos rfl] at this; exact (Option.some.inj this).symm
       subst hr
       have HL : Aside0 (l = [] → (Value.slice A l.length cap) = .slice none 0 0) := ⟨fun hl => by have h9 := HE.out; subst hl; simp [CD.f] at h9⟩
       go_wp2
       go_ret
       exact ⟨TS.out, HK6.out, _, rfl, HL.out, Mj.out, HI6.out⟩
      | false =>
       have hr : r = .error (p + 8, 160) := by have := Ho.out; rw [if_neg (by decide)] at this; exact (Option.some.inj this).symm
       subst hr
       go_wp2_with (go_at_call 34; refine (oF _ _ _).mono ?_; rintro e w' ⟨he, rfl⟩; simp only [gone] at he; subst he)
       exact ⟨rfl, TS.out, HK6.out, rfl⟩
     ·have hR := HR.out
      rw [if_neg c5] at hR
      have qC : (x == 0) = false := beq_eq_false_iff_ne.mpr c5
      have DF : (x != 0) = true := bne_iff_ne.mpr c5
      clear c5
      have hr : r = .error (wrap64 (p + 8 + q), x) := (Option.some.inj hR).symm
      subst hr
      clear hR HR
      go_wp2_with (go_at_call 34; refine (oF _ _ _).mono ?_; rintro e w' ⟨he, rfl⟩; simp only [gone] at he; subst he)
      exact ⟨rfl, Np.out, HK5.out, rfl⟩
    ·rw [if_neg c4] at hK
     have T7 : (id.toList == ([77, 84, 114, 107] : List UInt8)) = false := beq_eq_false_iff_ne.mpr c4
     have RE : (id.toList != ([77, 84, 114, 107] : List UInt8)) = true := bne_iff_ne.mpr c4
     clear c4
     have hr : r = .ok ([], p + 8 + n) := (Option.some.inj hK).symm
     subst hr
     clear hK
     go_wp2
     go_ret
     exact ⟨Wn.out, Fa.out, _, rfl, fun _ => rfl, Kd.fI _ _ _ _ _, Lu.out⟩
end Go.Proofs.Ytdmnknhlibaaoaa.M
namespace Go.Proofs.Ytdmnknhlibaaoaa.M
open Go.RowKit Go.Proofs.YtdmnknhlibaaoaaW.PrintWords Go.Proofs.YtdmnknhlibaaoaaW.PrintLast Go.Proofs.YtdmnknhlibaaoaaW.PrintMore
set_option linter.unusedVariables false
set_option linter.unusedSimpArgs false
theorem cp0 : (Try.prog.info? 57).map (fun i => i.zero) = some (some (.agg #[.int .i64 0, .int .i64 0])) := by kernel_rfl
theorem cz3 (w : World) : (Instr.typeAssert .nilIface 20 57 true).run Try.prog w = .ok (.tuple #[.agg #[.int .i64 0, .int .i64 0], .bool false]) w := by
 have h := cp0
 cases hi : Try.prog.info? 57 with
 | none => rw [hi] at h; cases h
 | some i =>
  rw [hi] at h
  have hz : i.zero = some (.agg #[.int .i64 0, .int .i64 0]) := Option.some.inj h
  simp [Instr.typeAssert, run_underlying Try.underlying57, zeroValue, typeInfo, hi, hz, Result.andThen]
theorem cw2 (v : Value) (w : World) : (Instr.typeAssert (.iface 57 v) 20 57 true).run Try.prog w = .ok (.tuple #[v, .bool true]) w := by
 simp [Instr.typeAssert, run_underlying Try.underlying57, Result.andThen]
theorem cn8 (fb ab eb : Nat) (w : World) :
 CallsD Try.prog 31 #[.pointer (some ⟨fb, 0, none⟩), .pointer (some ⟨ab, 0, none⟩), .pointer (some ⟨eb, 0, none⟩)] .returning w fun e u' w' => e = .returned (.tuple #[]) ∧ u' = .returning ∧ w' = w := by
 have ha := cz3
 refine callsD_of_wpS Try.func31 rfl fun c₀ cs hu => ?_
 apply wpS_seq
 apply wpS_region
 simp [wpOpsS, go_sem, recoverD, hu, Try.ntmps31, Exit.thenS]
 refine wpS_of_wp ?_
 go_wp2
 all_goals
  cases c₀
  simp_all [bodyPostS, results, Try.results31]
def Om (fb ab eb : Nat) (a c : Int) (w0 w : World) (w' : World) : Prop := w'.heap[fb]? = some (.cells #[.int .i64 0, .int .i64 0, .slice none 0 0] 24 (0, 0)) ∧ w'.heap[ab]? = some (.cells #[.int .i64 a] 3 (0, 0)) ∧ w'.heap[eb]? = some (.cells #[.int .i64 c] 33 (0, 0)) ∧ Below w0.heap.size w0 w'
set_option maxHeartbeats 8000000 in
set_option maxRecDepth 100000 in
theorem Hm (fb ab eb : Nat) (a c x y a0 c0 : Int) (v : Value) (Ff : List PanicEntry) (w0 w : World) (hB : Below w0.heap.size w0 w) (h0 : w0.heap.size ≤ fb) (h1 : w0.heap.size ≤ ab) (h2 : w0.heap.size ≤ eb) (n1 : fb ≠ ab) (n2 : fb ≠ eb) (n3 : ab ≠ eb)
 (hf : w.heap[fb]? = some (.cells #[.int .i64 x, .int .i64 y, v] 24 (0, 0))) (ha : w.heap[ab]? = some (.cells #[.int .i64 a0] 3 (0, 0))) (he : w.heap[eb]? = some (.cells #[.int .i64 c0] 33 (0, 0))) :
 CallsD Try.prog 31 #[.pointer (some ⟨fb, 0, none⟩), .pointer (some ⟨ab, 0, none⟩), .pointer (some ⟨eb, 0, none⟩)] (.panicking ({ v := .iface 57 (.agg #[.int .i64 a, .int .i64 c]), recovered := false } :: Ff)) w fun e u' w' =>
  e = .returned (.tuple #[]) ∧ u' = .panicking ({ v := .iface 57 (.agg #[.int .i64 a, .int .i64 c]), recovered := true } :: Ff) ∧ Om fb ab eb a c w0 w w' := by
 have hw := cw2
 have Hf := am (I1 hf (.cells #[.int .i64 a, .int .i64 c] 57))
 have Ha := am (I1 ha (.cells #[.int .i64 a, .int .i64 c] 57))
 have He := am (I1 he (.cells #[.int .i64 a, .int .i64 c] 57))
 have I := am (I6 hB (.cells #[.int .i64 a, .int .i64 c] 57))
 have Hn := am (show (w.alloc (.cells #[.int .i64 a, .int .i64 c] 57)).heap[w.heap.size]? = some (.cells #[.int .i64 a, .int .i64 c] 57 (0, 0)) by simpa using heap_alloc_new w _)
 have Hx := am (show fb < w.heap.size ∧ ab < w.heap.size ∧ eb < w.heap.size from ⟨K8 hf, K8 ha, K8 he⟩)
 clear hf ha he hB
 refine callsD_of_wpS Try.func31 rfl fun c₀ cs hu => ?_
 apply wpS_seq
 apply wpS_region
 simp [wpOpsS, go_sem, recoverD, hu, Try.ntmps31, Exit.thenS]
 refine wpS_of_wp ?_
 go_wp2
 change Code.wp _ _ _ { tmps := #[.pointer (some ⟨fb, 0, none⟩), .pointer (some ⟨ab, 0, none⟩), .pointer (some ⟨eb, 0, none⟩), .pointer (some ⟨w.heap.size, 0, none⟩), .iface 57 (.agg #[.int .i64 a, .int .i64 c]), .tuple #[.agg #[.int .i64 a, .int .i64 c], .bool true], .bool true, .agg #[.int .i64 a, .int .i64 c], undef, undef, undef, undef, undef], defers := [] } _
 obtain ⟨W, hW⟩ : ∃ W : World, W = w.alloc (.cells #[.int .i64 a, .int .i64 c] 57) := ⟨_, rfl⟩
 rw [← hW] at Hf Ha He I Hn ⊢
 have f0 := (G0 Hf.out 0).trans rfl
 have f1 := (G0 Hf.out 1).trans rfl
 have f2 := (G0 Hf.out 2).trans rfl
 have z0 := Y0 Hf.out 0
 have z1 := Y0 Hf.out 1
 have z2 := Y0 Hf.out 2
 have a0_ := (G0 Ha.out 0).trans rfl
 have za := Y0 Ha.out 0
 have e0_ := (G0 He.out 0).trans rfl
 have ze := Y0 He.out 0
 have g0 := (G0 Hn.out 0).trans rfl
 have g1 := (G0 Hn.out 1).trans rfl
 have m1 : ab ≠ fb := n1.symm
 have m2 : eb ≠ fb := n2.symm
 have m3 : eb ≠ ab := n3.symm
 have k1 : w.heap.size ≠ fb := by have := Hx.out; omega
 have k2 : w.heap.size ≠ ab := by have := Hx.out; omega
 have k3 : w.heap.size ≠ eb := by have := Hx.out; omega
 clear hW
 have HC : Om fb ab eb a c w0 w ((((((W.setCell ⟨fb, 0, none⟩ (.int .i64 0)).setCell ⟨fb, 1, none⟩ (.int .i64 0)).setCell ⟨fb, 2, none⟩ (.slice none 0 0)).setCell ⟨ab, 0, none⟩ (.int .i64 a)).setCell ⟨eb, 0, none⟩ (.int .i64 c)).drew) := by
  refine ⟨?_, ?_, ?_, ?_⟩
  ·exact M1 (P0 (P0 (by simpa using DB (DB (DB Hf.out 0 (.int .i64 0)) 1 (.int .i64 0)) 2 (.slice none 0 0)) n1 _) n2 _)
  ·exact M1 (P0 (by simpa using DB (P0 (P0 (P0 Ha.out m1 (.int .i64 0) (p := ⟨fb, 0, none⟩)) m1 (.int .i64 0) (p := ⟨fb, 1, none⟩)) m1 (.slice none 0 0) (p := ⟨fb, 2, none⟩)) 0 (.int .i64 a)) n3 _)
  ·exact M1 (by simpa using DB (P0 (P0 (P0 (P0 He.out m2 (.int .i64 0) (p := ⟨fb, 0, none⟩)) m2 (.int .i64 0) (p := ⟨fb, 1, none⟩)) m2 (.slice none 0 0) (p := ⟨fb, 2, none⟩)) m3 (.int .i64 a) (p := ⟨ab, 0, none⟩)) 0 (.int .i64 c))
  ·exact G6 (i4 (i4 (i4 (i4 (i4 I.out h0) h0) h0) h1) h2)
 have HC := am HC
 go_region
 refine (show bodyPostS Try.prog Try.f31 c₀ cs (fun e u' w' => e = .returned (.tuple #[]) ∧ u' = .panicking ({ v := .iface 57 (.agg #[.int .i64 a, .int .i64 c]), recovered := true } :: Ff) ∧ Om fb ab eb a c w0 w w') Exit.normal _ _ _ from ?_)
 simp [bodyPostS, results, Try.results31]
 exact HC.out
end Go.Proofs.Ytdmnknhlibaaoaa.M
namespace Go.Proofs.Ytdmnknhlibaaoaa.M
open Go.RowKit Go.Proofs.YtdmnknhlibaaoaaW.PrintWords Go.Proofs.YtdmnknhlibaaoaaW.PrintLast Go.Proofs.YtdmnknhlibaaoaaW.PrintMore
set_option linter.unusedVariables false
set_option linter.unusedSimpArgs false
def fC (k : Nat) (s : ByteArray) (n : Int) : Nat → Int → List (List N0) → Option (Except (Int × Int) (List (List N0) × Int))
 | 0, _, _ => none
 | m + 1, p, acc => if (acc.length : Int) < n then (jF k s p).bind fun r => match r with
  | .error x => some (.error x)
  | .ok (l, q) => if l.length = 0 then fC k s n m q acc else if acc.length < 5864062014805 then fC k s n m q (acc ++ [l]) else none
  else some (.ok (acc, p))
def I8.f (k : Nat) (s : ByteArray) : Option (Int × Int × List (List N0) × Int × Int) :=
 if (s.size : Int) > 100000 then some (0, 0, [], 0, 160)
 else match kC s 14 0 with
  | some (a, c) => some (0, 0, [], a, c)
  | none => (fC k s (bt s 11) k 14 []).bind fun r => match r with
   | .error (a, c) => some (0, 0, [], a, c)
   | .ok (acc, p) => if p < (s.size : Int) then some (0, 0, [], p, 160) else some (bt s 9, fB (bt s 12) (bt s 13), acc, 0, 0)
abbrev begun (s : ByteArray) (w : World) : World := (((w.alloc (.cells #[.int .i64 0, .int .i64 0, .slice none 0 0] 24)).alloc (.cells #[.int .i64 0] 3)).alloc (.cells #[.int .i64 0] 33)).alloc (.cells #[.string s, .int .i64 0] 60)
theorem ah9 (s : ByteArray) (w : World) : (begun s w).heap[w.heap.size]? = some (.cells #[.int .i64 0, .int .i64 0, .slice none 0 0] 24 (0, 0)) := I1 (I1 (I1 (by simpa using heap_alloc_new w _) _) _) _
theorem af4 (s : ByteArray) (w : World) : (begun s w).heap[w.heap.size + 1]? = some (.cells #[.int .i64 0] 3 (0, 0)) := I1 (I1 (by simpa using heap_alloc_new (w.alloc (.cells #[.int .i64 0, .int .i64 0, .slice none 0 0] 24)) (.cells #[.int .i64 0] 3)) _) _
theorem aj6 (s : ByteArray) (w : World) : (begun s w).heap[w.heap.size + 1 + 1]? = some (.cells #[.int .i64 0] 33 (0, 0)) := I1 (by simpa using heap_alloc_new ((w.alloc (.cells #[.int .i64 0, .int .i64 0, .slice none 0 0] 24)).alloc (.cells #[.int .i64 0] 3)) (.cells #[.int .i64 0] 33)) _
theorem ag3 (s : ByteArray) (w : World) : W4 w (begun s w) (w.heap.size + 1 + 1 + 1) s 0 := ⟨by simpa using heap_alloc_new (((w.alloc (.cells #[.int .i64 0, .int .i64 0, .slice none 0 0] 24)).alloc (.cells #[.int .i64 0] 3)).alloc (.cells #[.int .i64 0] 33)) (.cells #[.string s, .int .i64 0] 60), by omega⟩
theorem aq3 (s : ByteArray) (w : World) : Below w.heap.size w (begun s w) := I6 (I6 (I6 (I6 (Below.refl _ _) _) _) _) _
set_option maxHeartbeats 8000000 in
set_option maxRecDepth 100000 in
theorem Km (s : ByteArray) (w : World) (hs : (s.size : Int) > 100000) :
 Calls Try.prog 21 #[.string s] w fun e w' => e = .returned (.tuple #[.agg #[.int .i64 0, .int .i64 0, .slice none 0 0], .int .i64 0, .int .i64 160]) ∧ Below w.heap.size w w' := by
 have hd : decide ((s.size : Int) > 100000) = true := decide_eq_true hs
 go_enter_defers Try.func21, Try.ntmps21
 go_wp2
 simp [bodyPostD, Leaves, settle, results, Try.results21, go_sem]
 exact I6 (I6 (I6 (Below.refl _ _) _) _) _
set_option maxHeartbeats 8000000 in
set_option maxRecDepth 100000 in
theorem cs6 (s : ByteArray) (w : World) (a c : Int) (hs : s.size ≤ 100000) (hh : kC s 14 0 = some (a, c)) :
 Calls Try.prog 21 #[.string s] w fun e w' => e = .returned (.tuple #[.agg #[.int .i64 0, .int .i64 0, .slice none 0 0], .int .i64 a, .int .i64 c]) ∧ Below w.heap.size w w' := by
 have hd : decide ((s.size : Int) > 100000) = false := decide_eq_false (by omega)
 have Rq : ∀ (fn : Fn) (first cap : Array Value) (w : World), (Instr.makeFunc fn first cap).run Try.prog w = .ok (.func fn first cap) w := fun _ _ _ _ => rfl
 go_enter_defers Try.func21, Try.ntmps21
 go_wp2_with fail
 go_at_call 32
 refine (ai8 (w.heap.size + 1 + 1 + 1) w.heap.size s w (begun s w) (ag3 s w) (ah9 s w) (Nat.le_refl _) (aq3 s w) hs).mono ?_
 rintro e w1 ⟨G, X, x, y, hf, he⟩
 rw [hh] at he
 have he2 : e = gone a c := he
 have HA := am (X.blk (af4 s w) (by omega) (fun z => by have := Option.some.inj z; omega))
 have HE := am (X.blk (aj6 s w) (by omega) (fun z => by have := Option.some.inj z; omega))
 have HF := am hf
 have I := am G
 clear X hf G he
 simp only [gone] at he2
 subst he2
 go_wp2_with fail
 refine leaves_cons (f := 31) (args := #[.pointer (some ⟨w.heap.size, 0, none⟩), .pointer (some ⟨w.heap.size + 1, 0, none⟩), .pointer (some ⟨w.heap.size + 1 + 1, 0, none⟩)]) (by simp) (by simp [go_sem]) ?_
 refine (Hm w.heap.size (w.heap.size + 1) (w.heap.size + 1 + 1) a c x y 0 0 _ [] w w1 I.out (Nat.le_refl _) (by omega) (by omega) (by omega) (by omega) (by omega) HF.out HA.out HE.out).mono ?_
 rintro e u' OP ⟨rfl, rfl, h1, h2, h3, h4⟩
 have q0 := (G0 h1 0).trans rfl
 have q1 := (G0 h1 1).trans rfl
 have q2 := (G0 h1 2).trans rfl
 have q3 := (G0 h2 0).trans rfl
 have q4 := (G0 h3 0).trans rfl
 simp [Leaves, settle, results, Try.results21, go_sem, q0, q1, q2, q3, q4]
 exact h4
end Go.Proofs.Ytdmnknhlibaaoaa.M
namespace Go.Proofs.Ytdmnknhlibaaoaa.M
open Go.RowKit Go.Proofs.YtdmnknhlibaaoaaW.PrintWords Go.Proofs.YtdmnknhlibaaoaaW.PrintLast Go.Proofs.YtdmnknhlibaaoaaW.PrintMore
set_option linter.unusedVariables false
set_option linter.unusedSimpArgs false
theorem cr7 {k : Nat} {s : ByteArray} {p q : Int} {l : List N0} (hp : 0 ≤ p ∧ p ≤ s.size) (h : jF k s p = some (.ok (l, q))) : 0 ≤ q ∧ q ≤ s.size := by
 have hn := (qZ (s.extract (p + 4).toNat (p + 8).toNat)).2.2.2
 unfold jF at h
 by_cases c1 : (s.size : Int) - p < 4
 ·rw [if_pos c1] at h; cases h
 rw [if_neg c1] at h
 by_cases c2 : (s.size : Int) - (p + 4) < 4
 ·rw [if_pos c2] at h; cases h
 rw [if_neg c2] at h
 by_cases c3 : (s.size : Int) - (p + 8) < b8 (s.extract (p + 4).toNat (p + 8).toNat) 4
 ·rw [if_pos c3] at h; cases h
 rw [if_neg c3] at h
 have key : q = p + 8 + b8 (s.extract (p + 4).toNat (p + 8).toNat) 4 := by
  by_cases c4 : (s.extract p.toNat (p + 4).toNat).toList = ([77, 84, 114, 107] : List UInt8)
  ·rw [if_pos c4] at h
   obtain ⟨d, _, h⟩ := Option.bind_eq_some_iff.mp h
   by_cases c5 : d.2.2 = 0
   ·rw [if_pos c5] at h
    obtain ⟨b, _, h⟩ := Option.bind_eq_some_iff.mp h
    cases b with
    | true => rw [if_pos rfl] at h; injection h with h; injection h with h; exact (Prod.mk.inj h).2.symm
    | false => rw [if_neg (by decide)] at h; cases h
   ·rw [if_neg c5] at h; cases h
  ·rw [if_neg c4] at h; injection h with h; injection h with h; exact (Prod.mk.inj h).2.symm
 omega
theorem Wk {s : ByteArray} : ∀ (n i : Nat), kC s n i = none → (i : Int) ≤ s.size → ((i + n : Nat) : Int) ≤ s.size
 | 0, i, _, hi => hi
 | n + 1, i, h, hi => by
  rw [kC] at h
  by_cases c1 : (i : Int) < s.size
  ·rw [if_pos c1] at h
   by_cases c2 : WC s i = true
   ·rw [if_pos c2] at h
    have := Wk n (i + 1) h (by omega)
    omega
   ·rw [if_neg c2] at h; cases h
  ·rw [if_neg c1] at h; cases h
def fZ (s : ByteArray) : Except (Int × Int) (List (List N0) × Int) → Int × Int × List (List N0) × Int × Int
 | .error (a, c) => (0, 0, [], a, c)
 | .ok (acc, p) => if p < (s.size : Int) then (0, 0, [], p, 160) else (bt s 9, fB (bt s 12) (bt s 13), acc, 0, 0)
theorem al1 {s : ByteArray} {acc : List (List N0)} {p : Int} (h : p < (s.size : Int)) : fZ s (.ok (acc, p)) = (0, 0, [], p, 160) := if_pos h
theorem ai9 {s : ByteArray} {acc : List (List N0)} {p : Int} (h : ¬ p < (s.size : Int)) : fZ s (.ok (acc, p)) = (bt s 9, fB (bt s 12) (bt s 13), acc, 0, 0) := if_neg h
def cv0 (w : World) (r : Int × Int × List (List N0) × Int × Int) (e : Ending) (w' : World) : Prop :=
 ∃ mG : Value, e = .returned (.tuple #[.agg #[.int .i64 r.1, .int .i64 r.2.1, mG], .int .i64 r.2.2.2.1, .int .i64 r.2.2.2.2]) ∧ Kd.S (Kd.slice 28 L3) 30 w' w.heap.size (fun _ => True) mG r.2.2.1 ∧ Below w.heap.size w w'
structure Pz (s : ByteArray) (w W : World) (p : Int) (acc : List (List N0)) (v : Value) : Prop where
 st : W4 w W (w.heap.size + 1 + 1 + 1) s p
 fl : W.heap[w.heap.size]? = some (.cells #[.int .i64 (bt s 9), .int .i64 (fB (bt s 12) (bt s 13)), v] 24 (0, 0))
 ra : W.heap[w.heap.size + 1]? = some (.cells #[.int .i64 0] 3 (0, 0))
 re : W.heap[w.heap.size + 1 + 1]? = some (.cells #[.int .i64 0] 33 (0, 0))
 ow : Kd.S (Kd.slice 28 L3) 30 W w.heap.size (fun _ => True) v acc
 be : Below w.heap.size w W
 le : 0 ≤ p ∧ p ≤ s.size
set_option maxHeartbeats 8000000 in
set_option maxRecDepth 100000 in
theorem cv8 (k : Nat) (s : ByteArray) (w : World) (r : Except (Int × Int) (List (List N0) × Int)) (hs : s.size ≤ 100000) (hh : kC s 14 0 = none) (hr : fC k s (bt s 11) k 14 [] = some r) :
 Calls Try.prog 21 #[.string s] w (cv0 w (fZ s r)) := by
 have hd : decide ((s.size : Int) > 100000) = false := decide_eq_false (by omega)
 have Rq : ∀ (fn : Fn) (first cap : Array Value) (w : World), (Instr.makeFunc fn first cap).run Try.prog w = .ok (.func fn first cap) w := fun _ _ _ _ => rfl
 have ep8 : ∀ (W : World) (a : Option Addr) (n c : Nat), (binOp .neq 30 (.slice a n c) (.slice none 0 0)).run Try.prog W = .ok (.bool (!a.isNone)) W := fun W a n c => run_neq_slice_nil W 30 28 a n c Try.underlying30
 have Kr := am hr
 clear hr
 go_enter_defers Try.func21, Try.ntmps21
 go_wp2_with fail
 go_at_call 32
 refine (ai8 (w.heap.size + 1 + 1 + 1) w.heap.size s w (begun s w) (ag3 s w) (ah9 s w) (Nat.le_refl _) (aq3 s w) hs).mono ?_
 rintro e w1 ⟨G, X, x, y, hf, he⟩
 rw [hh] at he
 obtain ⟨rfl, hi, rfl, rfl⟩ := he
 have HP := am (⟨hi, hf, X.blk (af4 s w) (by omega) (fun z => by have := Option.some.inj z; omega), X.blk (aj6 s w) (by omega) (fun z => by have := Option.some.inj z; omega), Kd.nP _ _ _ _ _, G, by have := Wk 14 0 hh (by omega); omega⟩ : Pz s w w1 14 [] (.slice none 0 0))
 clear X hf G hi
 go_wp2
 go_loopg [] k (fun kq w' => ∃ (p : Int) (acc : List (List N0)) (v : Value), Aside0 (fC k s (bt s 11) kq p acc = some r) ∧ Aside0 (Pz s w w' p acc v))
 case atStart => exact ⟨14, [], .slice none 0 0, Kr, HP⟩
 case round =>
  clear Kr HP
  obtain ⟨p, acc, v, HA, HP⟩ := hrel
  cases gk with
  | zero => exact absurd HA.out (by simp [fC])
  | succ m =>
   obtain ⟨A, cap, rfl⟩ := Kd.iJ HP.out.ow
   have H := HA.out
   rw [fC] at H
   have H := am H
   clear HA
   have i_ := (G0 HP.out.fl 0).trans rfl
   have uI := (G0 HP.out.fl 1).trans rfl
   have hc2 := (G0 HP.out.fl 2).trans rfl
   by_cases c1 : (acc.length : Int) < bt s 11
   ·have hK := H.out
    rw [if_pos c1] at hK
    have c1b : decide ((acc.length : Int) < bt s 11) = true := decide_eq_true c1
    clear c1
    obtain ⟨r1, HJ, hK⟩ := Option.bind_eq_some_iff.mp hK
    have HC := am HJ
    have HK := am hK
    clear HJ hK H
    go_wp2_with fail
    go_at_call 33
    refine (cw9 k (w.heap.size + 1 + 1 + 1) s p r1 w _ HP.out.st HP.out.be HP.out.le hs HC.out).mono ?_
    rintro e w2 ⟨G, X, hm⟩
    have l4 := HP.out.st.lt
    have HF := am (X.blk HP.out.fl (by omega) (by simp))
    have HA := am (X.blk HP.out.ra (by omega) (by simp))
    have HE := am (X.blk HP.out.re (by omega) (by simp))
    have PR := am (Kd.co3 (Kd.NJ (Kd.bI HP.out.ow) HP.out.st.1 (by decide)) X (fun _ h_ => h_.2))
    have I := am G
    clear G X i_ uI hc2
    cases r1 with
    | error ac =>
     obtain ⟨a, c⟩ := ac
     have he : e = gone a c := hm
     have hr : r = .error (a, c) := (Option.some.inj HK.out).symm
     subst hr
     clear hm HK HC PR HP
     simp only [gone] at he
     subst he
     go_wp2_with fail
     refine leaves_cons (f := 31) (args := #[.pointer (some ⟨w.heap.size, 0, none⟩), .pointer (some ⟨w.heap.size + 1, 0, none⟩), .pointer (some ⟨w.heap.size + 1 + 1, 0, none⟩)]) (by simp) (by simp [go_sem]) ?_
     refine (Hm w.heap.size (w.heap.size + 1) (w.heap.size + 1 + 1) a c _ _ 0 0 _ [] w w2 I.out (Nat.le_refl _) (by omega) (by omega) (by omega) (by omega) (by omega) HF.out HA.out HE.out).mono ?_
     rintro e u' OP ⟨rfl, rfl, h1, h2, h3, h4⟩
     have q0 := (G0 h1 0).trans rfl
     have q1 := (G0 h1 1).trans rfl
     have q2 := (G0 h1 2).trans rfl
     have q3 := (G0 h2 0).trans rfl
     have q4 := (G0 h3 0).trans rfl
     simp [Leaves, settle, results, Try.results21, go_sem, q0, q1, q2, q3, q4]
     exact ⟨_, rfl, Kd.nP _ _ _ _ _, h4⟩
    | ok lq =>
     obtain ⟨l, q⟩ := lq
     obtain ⟨vl, rfl, Yd, hR, hi⟩ := hm
     have hq := cr7 HP.out.le HC.out
     have HQ := am hq
     have hK := HK.out
     replace hK : (if l.length = 0 then fC k s (bt s 11) m q acc else if acc.length < 5864062014805 then fC k s (bt s 11) m q (acc ++ [l]) else none) = some r := hK
     have HI := am hi
     clear hi hq HK HC
     by_cases cl : l.length = 0
     ·rw [if_pos cl] at hK
      have hv := Yd (List.eq_nil_of_length_eq_zero cl)
      subst hv
      have HN := am hK
      have HP2 := am (⟨HI.out, HF.out, HA.out, HE.out, Kd.kD PR.out (fun _ _ => trivial), I.out, HQ.out⟩ : Pz s w w2 q acc (.slice A acc.length cap))
      clear hK hR Yd cl HP PR
      go_wp2
      go_roundg m
      case measure => omega
      case rel => exact ⟨q, acc, _, HN, HP2⟩
     ·rw [if_neg cl] at hK
      by_cases c2 : acc.length < 5864062014805
      ·rw [if_pos c2] at hK
       have HN := am hK
       have HL := am c2
       clear hK c2 Yd
       have G7 := Kd.A_ hR
       obtain ⟨ad, Fk, rfl⟩ := Kd.R_slice1 hR (by omega)
       have HS := am (Kd.kD (ok' := fun k_ => True ∧ some k_ ≠ (Value.slice (some ad) l.length Fk).ownBlock) PR.out (fun k_ n4 => ⟨trivial, fun e_ => by have h1 := G7 k_ e_.symm; have h2 := n4.1.2.2.1; omega⟩))
       have HR := am (Kd.j9 hR HP.out.be.size)
       clear hR G7 PR HP cl
       have sF := (G0 HF.out 2).trans rfl
       go_wp2_with (((with_reducible refine O_ (b := .append) (xs := #[.tmp 28, .tmp 30]) rfl ?_); at_builtin; refine Kd.wZ (Kd.slice 28 L3) (w0 := w) w.heap.size rfl (.tmp 28) (.tmp 30) 22 30 (.slice none 0 0) 24 rfl Try.underlying22 zV rfl (by decide) (by omega) (.slice A acc.length cap) acc l [.slice (some ad) l.length Fk] (fun _ => True) (fun k_ => some k_ = (.slice (some ad) l.length Fk : Value).ownBlock) rfl rfl ?aP (fun k_ n4 => ((Kd.Y5 (ok' := fun k_ => ((fun _ => True)) k_ ∧ some k_ ≠ (.slice A acc.length cap : Value).ownBlock) (Kd.RB (HR.out) (Kd.cP HS.out) (by decide)) (fun k_ X => ⟨trivial, X.2⟩))).1 k_ n4.symm) ?aF ?aO ?aB ?aS ?aL ?_; (case aP => exact Kd.Ul (Kd.Y5 (Kd.PY rfl (Kd.Y5 (ok' := fun k_ => ((fun _ => True)) k_ ∧ some k_ ≠ (.slice A acc.length cap : Value).ownBlock) (Kd.RB (HR.out) (Kd.cP HS.out) (by decide)) (fun k_ X => ⟨trivial, X.2⟩))) (fun _ h_ => h_))); (case aB => exact I.out); (case aF => exact (fun _ _ => trivial)); (case aO => exact Kd.kD HS.out (fun k_ X => ⟨trivial, fun e_ => X.2 e_⟩)); (case aS => exact I.out.size); (case aL => have := HL.out; omega); intro v3 w3 ho G hg O1; obtain ⟨A3, c3, rfl⟩ := Kd.iJ ho; have HO := am ho; have XV := am (U6 HF.out hg (Kd.dI HS.out HF.out (by decide))); have HA3 := am (U6 HA.out hg (Kd.dI HS.out HA.out (by decide))); have HE3 := am (U6 HE.out hg (Kd.dI HS.out HE.out (by decide))); have xW := am (HI.out.grown hg (Kd.dI HS.out HI.out.1 (by decide))); have UQ := am G; have ND := (G0 XV.out 2).trans rfl; have hzf := Y0 XV.out 2; clear ho G hg O1 HS HR))
       have HP4 := am (⟨xW.out.far (by show w.heap.size + 1 + 1 + 1 ≠ w.heap.size; omega) _, by simpa using DB XV.out 2 (.slice A3 (acc ++ [l]).length c3), P0 HA3.out tZ _, P0 HE3.out SY _, Kd.zR HO.out XV.out (by decide) 2 _, i4 UQ.out (Nat.le_refl _), HQ.out⟩ : Pz s w (w3.setCell ⟨w.heap.size, 2, none⟩ (.slice A3 (acc ++ [l]).length c3)) q (acc ++ [l]) (.slice A3 (acc ++ [l]).length c3))
       go_roundg m
       case measure => omega
       case rel => exact ⟨q, acc ++ [l], _, HN, by have h9 := HP4; simp only [List.length_append, List.length_singleton] at h9; exact h9⟩
      ·rw [if_neg c2] at hK; cases hK
   ·have hK := H.out
    rw [if_neg c1] at hK
    have c1b : decide ((acc.length : Int) < bt s 11) = false := decide_eq_false c1
    have hr : r = .ok (acc, p) := (Option.some.inj hK).symm
    subst hr
    clear c1 hK H
    have hp1 := rL HP.out.st.1
    by_cases c3 : p < (s.size : Int)
    ·have c3b : decide (p < (s.size : Int)) = true := decide_eq_true c3
     have C3 := am c3
     clear c3
     go_wp2_with (go_at_call 34; refine (oF _ _ _).mono ?_; rintro e w' ⟨he, rfl⟩; simp only [gone] at he; subst he)
     refine leaves_cons (f := 31) (args := #[.pointer (some ⟨w.heap.size, 0, none⟩), .pointer (some ⟨w.heap.size + 1, 0, none⟩), .pointer (some ⟨w.heap.size + 1 + 1, 0, none⟩)]) (by simp) (by simp [go_sem]) ?_
     refine (Hm w.heap.size (w.heap.size + 1) (w.heap.size + 1 + 1) p 160 _ _ 0 0 _ [] w _ HP.out.be (Nat.le_refl _) (by omega) (by omega) (by omega) (by omega) (by omega) HP.out.fl HP.out.ra HP.out.re).mono ?_
     rintro e u' OP ⟨rfl, rfl, h1, h2, h3, h4⟩
     have q0 := (G0 h1 0).trans rfl
     have q1 := (G0 h1 1).trans rfl
     have q2 := (G0 h1 2).trans rfl
     have q3 := (G0 h2 0).trans rfl
     have q4 := (G0 h3 0).trans rfl
     simp [Leaves, settle, results, Try.results21, go_sem, q0, q1, q2, q3, q4]
     rw [al1 C3.out]
     exact ⟨_, rfl, Kd.nP _ _ _ _ _, h4⟩
    ·have c3b : decide (p < (s.size : Int)) = false := decide_eq_false c3
     have C3 := am (show ¬ p < (s.size : Int) from c3)
     clear c3
     have DW := Y0 HP.out.fl 0
     have Cv := Y0 HP.out.fl 1
     have Fr := Y0 HP.out.fl 2
     have Eg := (G0 HP.out.ra 0).trans rfl
     have haf := Y0 HP.out.ra 0
     have he0 := (G0 HP.out.re 0).trans rfl
     have hef := Y0 HP.out.re 0
     have g1 : (wr.setCell ⟨w.heap.size, 0, none⟩ (.int .i64 (bt s 9))).heap[w.heap.size]? = some (.cells #[.int .i64 (bt s 9), .int .i64 (fB (bt s 12) (bt s 13)), .slice A acc.length cap] 24 (0, 0)) := by simpa using DB HP.out.fl 0 (.int .i64 (bt s 9))
     have o1 := Kd.zR HP.out.ow HP.out.fl (by decide) 0 (.int .i64 (bt s 9))
     have a1 := P0 HP.out.ra (p := ⟨w.heap.size, 0, none⟩) tZ (.int .i64 (bt s 9))
     have e1 := P0 HP.out.re (p := ⟨w.heap.size, 0, none⟩) SY (.int .i64 (bt s 9))
     have g2 : ((wr.setCell ⟨w.heap.size, 0, none⟩ (.int .i64 (bt s 9))).setCell ⟨w.heap.size, 1, none⟩ (.int .i64 (fB (bt s 12) (bt s 13)))).heap[w.heap.size]? = some (.cells #[.int .i64 (bt s 9), .int .i64 (fB (bt s 12) (bt s 13)), .slice A acc.length cap] 24 (0, 0)) := by simpa using DB g1 1 (.int .i64 (fB (bt s 12) (bt s 13)))
     have o2 := Kd.zR o1 g1 (by decide) 1 (.int .i64 (fB (bt s 12) (bt s 13)))
     have a2 := P0 a1 (p := ⟨w.heap.size, 1, none⟩) tZ (.int .i64 (fB (bt s 12) (bt s 13)))
     have e2 := P0 e1 (p := ⟨w.heap.size, 1, none⟩) SY (.int .i64 (fB (bt s 12) (bt s 13)))
     have g3 : (((wr.setCell ⟨w.heap.size, 0, none⟩ (.int .i64 (bt s 9))).setCell ⟨w.heap.size, 1, none⟩ (.int .i64 (fB (bt s 12) (bt s 13)))).setCell ⟨w.heap.size, 2, none⟩ (.slice A acc.length cap)).heap[w.heap.size]? = some (.cells #[.int .i64 (bt s 9), .int .i64 (fB (bt s 12) (bt s 13)), .slice A acc.length cap] 24 (0, 0)) := by simpa using DB g2 2 (.slice A acc.length cap)
     have o3 := Kd.zR o2 g2 (by decide) 2 (.slice A acc.length cap)
     have a3 := P0 a2 (p := ⟨w.heap.size, 2, none⟩) tZ (.slice A acc.length cap)
     have e3 := P0 e2 (p := ⟨w.heap.size, 2, none⟩) SY (.slice A acc.length cap)
     have g4 := P0 g3 (p := ⟨w.heap.size + 1, 0, none⟩) (by show w.heap.size ≠ w.heap.size + 1; omega) (.int .i64 0)
     have o4 := Kd.zR o3 a3 (by decide) 0 (.int .i64 0)
     have a4 := DB a3 0 (.int .i64 0)
     have e4 := P0 e3 (p := ⟨w.heap.size + 1, 0, none⟩) (by show w.heap.size + 1 + 1 ≠ w.heap.size + 1; omega) (.int .i64 0)
     have g5 := P0 g4 (p := ⟨w.heap.size + 1 + 1, 0, none⟩) (by show w.heap.size ≠ w.heap.size + 1 + 1; omega) (.int .i64 0)
     have o5 := Kd.zR o4 e4 (by decide) 0 (.int .i64 0)
     have a5 := P0 a4 (p := ⟨w.heap.size + 1 + 1, 0, none⟩) (by show w.heap.size + 1 ≠ w.heap.size + 1 + 1; omega) (.int .i64 0)
     have e5 := DB e4 0 (.int .i64 0)
     have G5 := am g5
     have O5 := am o5
     have A5 := am a5
     have E5 := am e5
     have B5 := am (i4 (j := 0) (v := .int .i64 0) (i4 (j := 0) (v := .int .i64 0) (i4 (j := 2) (v := .slice A acc.length cap) (i4 (j := 1) (v := .int .i64 (fB (bt s 12) (bt s 13))) (i4 (j := 0) (v := .int .i64 (bt s 9)) HP.out.be (Nat.le_refl _)) (Nat.le_refl _)) (Nat.le_refl _)) (show w.heap.size ≤ w.heap.size + 1 by omega)) (show w.heap.size ≤ w.heap.size + 1 + 1 by omega))
     clear g1 g2 g3 g4 g5 o1 o2 o3 o4 o5 a1 a2 a3 a4 a5 e1 e2 e3 e4 e5
     go_wp2
     refine leaves_cons (f := 31) (args := #[.pointer (some ⟨w.heap.size, 0, none⟩), .pointer (some ⟨w.heap.size + 1, 0, none⟩), .pointer (some ⟨w.heap.size + 1 + 1, 0, none⟩)]) (by simp) (by simp [go_sem]) ?_
     refine (cn8 _ _ _ _).mono ?_
     rintro e u' OP ⟨rfl, rfl, rfl⟩
     have q0 := (G0 G5.out 0).trans rfl
     have q1 := (G0 G5.out 1).trans rfl
     have q2 := (G0 G5.out 2).trans rfl
     have q3 := (G0 A5.out 0).trans rfl
     have q4 := (G0 E5.out 0).trans rfl
     simp [Leaves, settle, results, Try.results21, go_sem, q0, q1, q2, q3, q4]
     rw [ai9 (show ¬ p < (s.size : Int) by have := C3.out; omega)]
     exact ⟨_, rfl, O5.out, B5.out⟩
end Go.Proofs.Ytdmnknhlibaaoaa.M
namespace Go.Proofs.Ytdmnknhlibaaoaa.M
open Go.RowKit Go.Proofs.YtdmnknhlibaaoaaW.PrintWords Go.Proofs.YtdmnknhlibaaoaaW.PrintLast Go.Proofs.YtdmnknhlibaaoaaW.PrintMore
set_option linter.unusedVariables false
set_option linter.unusedSimpArgs false
theorem co7 (k : Nat) (s : ByteArray) (p : Int) : F0 (jF k s p) (jF (k + 1) s p) := by
 unfold jF
 refine F0.ite (F0.refl _) (F0.ite (F0.refl _) (F0.ite (F0.refl _) (F0.ite (F0.bind (M_.mono _ _) (fun d => F0.ite (F0.bind (CD.mono _ _) (fun _ => F0.refl _)) (F0.refl _))) (F0.refl _))))
theorem Zl (k : Nat) (s : ByteArray) (n : Int) : ∀ (m : Nat) (p : Int) (acc : List (List N0)), F0 (fC k s n m p acc) (fC (k + 1) s n (m + 1) p acc)
 | 0, p, acc => F0.none _
 | m + 1, p, acc => by
  rw [fC, fC]
  refine F0.ite (F0.bind (co7 k s p) (fun r => ?_)) (F0.refl _)
  cases r with
  | error x => exact F0.refl _
  | ok lq => exact F0.ite (Zl k s n m _ _) (F0.ite (Zl k s n m _ _) (F0.refl _))
theorem I8.mono : ∀ a0 k, F0 (I8.f k a0) (I8.f (k + 1) a0) := by
 intro s k
 unfold I8.f
 refine F0.ite (F0.refl _) ?_
 cases kC s 14 0 with
 | some x => exact F0.refl _
 | none => exact F0.bind (Zl k s _ k _ _) (fun _ => F0.refl _)
theorem I8.calls (k : Nat) (a0 : ByteArray) (r1 : Int) (r2 : Int) (r3 : List (List (N0))) (r4 : Int) (r5 : Int) (w : World) (h : I8.f k a0 = some (r1, r2, r3, r4, r5)) :
 Calls Try.prog 21 #[.string a0] w fun e w' => ∃ mG : Value, e = .returned (.tuple #[.agg #[.int .i64 r1, .int .i64 r2, mG], .int .i64 r4, .int .i64 r5]) ∧ Kd.S (Kd.slice 28 L3) 30 w' w.heap.size (fun _ => True) mG r3 ∧ Below w.heap.size w w' := by
 unfold I8.f at h; by_cases c1 : (a0.size : Int) > 100000
 ·rw [if_pos c1] at h; injection h with h
  simp only [Prod.mk.injEq] at h; obtain ⟨rfl, rfl, rfl, rfl, rfl⟩ := h; refine (Km a0 w c1).mono ?_; rintro e w' ⟨rfl, G⟩; exact ⟨_, rfl, Kd.nP _ _ _ _ _, G⟩
 ·rw [if_neg c1] at h; have hs : a0.size ≤ 100000 := by omega
  cases hh : kC a0 14 0 with
  | some x =>
   obtain ⟨a, c⟩ := x; rw [hh] at h; injection h with h
   simp only [Prod.mk.injEq] at h; obtain ⟨rfl, rfl, rfl, rfl, rfl⟩ := h; refine (cs6 a0 w a c hs hh).mono ?_; rintro e w' ⟨rfl, G⟩; exact ⟨_, rfl, Kd.nP _ _ _ _ _, G⟩
  | none =>
   rw [hh] at h; obtain ⟨r, hr, h⟩ := Option.bind_eq_some_iff.mp h
   have he : fZ a0 r = (r1, r2, r3, r4, r5) := by
    cases r with
    | error x => exact Option.some.inj h
    | ok x =>
     obtain ⟨acc, p⟩ := x; by_cases c2 : p < (a0.size : Int)
     ·rw [al1 c2]; have h2 : (if p < (a0.size : Int) then some ((0 : Int), (0 : Int), ([] : List (List N0)), p, (160 : Int)) else some (bt a0 9, fB (bt a0 12) (bt a0 13), acc, 0, 0)) = some (r1, r2, r3, r4, r5) := h; rw [if_pos c2] at h2; exact Option.some.inj h2
     ·rw [ai9 c2]; have h2 : (if p < (a0.size : Int) then some ((0 : Int), (0 : Int), ([] : List (List N0)), p, (160 : Int)) else some (bt a0 9, fB (bt a0 12) (bt a0 13), acc, 0, 0)) = some (r1, r2, r3, r4, r5) := h; rw [if_neg c2] at h2; exact Option.some.inj h2
   refine (cv8 k a0 w r hs hh hr).mono ?_; rw [he]; intro e w' hp; exact hp
end Go.Proofs.Ytdmnknhlibaaoaa.M
namespace Go.Proofs.Ytdmnknhlibaaoaa.M
open Go.RowKit Go.Proofs.YtdmnknhlibaaoaaW.PrintWords Go.Proofs.YtdmnknhlibaaoaaW.PrintLast Go.Proofs.YtdmnknhlibaaoaaW.PrintMore
attribute [local go_sem] cH bH eH jH fH nH qH oH
set_option linter.unusedVariables false
set_option linter.unusedSimpArgs false
def KE.f (k : Nat)  : Option (Bool) := (jC.f 0).bind fun O3 => ((some (([(([(⟨O3.1, O3.2.1, O3.2.2.1, O3.2.2.2.1, O3.2.2.2.2.1, O3.2.2.2.2.2⟩ : N0)] : List (N0)))] : List (List (N0))) : List (List (N0)))).bind fun V4 => ((Q5.f k 0 96 V4).bind fun tB => ((I8.f k tB.1).bind fun wE => (if 0 ≤ (mn (tB.1.size : Int) 20) then (if (mn (tB.1.size : Int) 20) ≤ (tB.1.size : Int) then ((I8.f k (tB.1.extract 0 ((mn (tB.1.size : Int) 20) : Int).toNat)).bind fun fD => ((H4.f k 0 96 ([] : List (List (N0)))).bind fun M5 => ((jC.f 0).bind fun Z8 => ((H4.f k 1 96 (([(([(⟨Z8.1, Z8.2.1, Z8.2.2.1, Z8.2.2.2.1, Z8.2.2.2.2.1, Z8.2.2.2.2.2⟩ : N0)] : List (N0))), []] : List (List (N0))))).bind fun yE => ((jC.f 0).bind fun H3 => ((H4.f k 0 96 (([(([(⟨0, 3, 0, 0, 0, (⟨#[]⟩ : ByteArray)⟩ : N0), (⟨H3.1, H3.2.1, H3.2.2.1, H3.2.2.2.1, H3.2.2.2.2.1, H3.2.2.2.2.2⟩ : N0)] : List (N0)))] : List (List (N0))))).bind fun vC => ((I8.f k (⟨#[77, 84, 104, 120]⟩ : ByteArray)).bind fun pC => (if tB.2 = 0 then (if tB.1.toList = ([77, 84, 104, 100, 0, 0, 0, 6, 0, 0, 0, 1, 0, 96, 77, 84, 114, 107, 0, 0, 0, 4, 0, 255, 47, 0] : List UInt8) then (if wE.2.2.2.2 = 0 then (if wE.2.2.2.1 = 0 then ((V8.f k 0 96 V4 wE.1 wE.2.1 wE.2.2.1).bind fun qE => (if qE = true then (if fD.2.2.2.1 = 20 then (if fD.2.2.2.2 = 152 then (if M5.2 = 160 then (if yE.1 = 1 then (if yE.2 = 160 then (if vC.1 = 0 then (if vC.2 = 151 then (if pC.2.2.2.1 = 3 then (some (pC.2.2.2.2 == 160)) else (none)) else (none)) else (none)) else (none)) else (none)) else (none)) else (none)) else (none)) else (none))) else (none)) else (none)) else (none)) else (none))))))))) else (none)) else (none)))))
theorem KE.mono : ∀ k, F0 (KE.f k ) (KE.f (k + 1) ) := by
 intro  k
 unfold KE.f
 repeat' with_reducible first
  | apply H4.mono
  | apply I8.mono
  | apply Q5.mono
  | apply V8.mono
  | apply F0.refl
  | refine F0.ite ?_ ?_
  | refine F0.bind ?_ (fun _ => ?_)
set_option maxHeartbeats 8000000 in
set_option maxRecDepth 100000 in
theorem KE.calls (k : Nat)  (r : Bool) (w : World) (h : KE.f k  = some r) :
 Calls Try.prog 11 #[] w fun e w' => e = .returned (.bool r) ∧ Below w.heap.size w w' := by
 have OH := Try.underlying24; have WB := Try.underlying28; have I := am (Below.refl w.heap.size w); have H := h; unfold KE.f at H; clear h; replace H := L2 H; obtain ⟨⟨t101, t102, t103, t104, t105, t106⟩, YI, H⟩ := H; have A1 := am YI; clear YI; obtain ⟨R3, FF⟩ : ∃ y_ : List (N0), y_ = (([(⟨t101, t102, t103, t104, t105, t106⟩ : N0)] : List (N0))) := ⟨_, rfl⟩
 replace H : ((some (([R3] : List (List (N0))) : List (List (N0)))).bind fun V4 => ((Q5.f k 0 96 V4).bind fun tB => ((I8.f k tB.1).bind fun wE => (if 0 ≤ (mn (tB.1.size : Int) 20) then (if (mn (tB.1.size : Int) 20) ≤ (tB.1.size : Int) then ((I8.f k (tB.1.extract 0 ((mn (tB.1.size : Int) 20) : Int).toNat)).bind fun fD => ((H4.f k 0 96 ([] : List (List (N0)))).bind fun M5 => ((jC.f 0).bind fun Z8 => ((H4.f k 1 96 (([(([(⟨Z8.1, Z8.2.1, Z8.2.2.1, Z8.2.2.2.1, Z8.2.2.2.2.1, Z8.2.2.2.2.2⟩ : N0)] : List (N0))), []] : List (List (N0))))).bind fun yE => ((jC.f 0).bind fun H3 => ((H4.f k 0 96 (([(([(⟨0, 3, 0, 0, 0, (⟨#[]⟩ : ByteArray)⟩ : N0), (⟨H3.1, H3.2.1, H3.2.2.1, H3.2.2.2.1, H3.2.2.2.2.1, H3.2.2.2.2.2⟩ : N0)] : List (N0)))] : List (List (N0))))).bind fun vC => ((I8.f k (⟨#[77, 84, 104, 120]⟩ : ByteArray)).bind fun pC => (if tB.2 = 0 then (if tB.1.toList = ([77, 84, 104, 100, 0, 0, 0, 6, 0, 0, 0, 1, 0, 96, 77, 84, 114, 107, 0, 0, 0, 4, 0, 255, 47, 0] : List UInt8) then (if wE.2.2.2.2 = 0 then (if wE.2.2.2.1 = 0 then ((V8.f k 0 96 V4 wE.1 wE.2.1 wE.2.2.1).bind fun qE => (if qE = true then (if fD.2.2.2.1 = 20 then (if fD.2.2.2.2 = 152 then (if M5.2 = 160 then (if yE.1 = 1 then (if yE.2 = 160 then (if vC.1 = 0 then (if vC.2 = 151 then (if pC.2.2.2.1 = 3 then (some (pC.2.2.2.2 == 160)) else (none)) else (none)) else (none)) else (none)) else (none)) else (none)) else (none)) else (none)) else (none))) else (none)) else (none)) else (none)) else (none))))))))) else (none)) else (none))))) = some r := by (rw [FF]; with_reducible exact H)
 have MG := am FF; clear FF; obtain ⟨V4, LI⟩ : ∃ y_ : List (List (N0)), y_ = (([R3] : List (List (N0)))) := ⟨_, rfl⟩
 replace H : ((Q5.f k 0 96 V4).bind fun tB => ((I8.f k tB.1).bind fun wE => (if 0 ≤ (mn (tB.1.size : Int) 20) then (if (mn (tB.1.size : Int) 20) ≤ (tB.1.size : Int) then ((I8.f k (tB.1.extract 0 ((mn (tB.1.size : Int) 20) : Int).toNat)).bind fun fD => ((H4.f k 0 96 ([] : List (List (N0)))).bind fun M5 => ((jC.f 0).bind fun Z8 => ((H4.f k 1 96 (([(([(⟨Z8.1, Z8.2.1, Z8.2.2.1, Z8.2.2.2.1, Z8.2.2.2.2.1, Z8.2.2.2.2.2⟩ : N0)] : List (N0))), []] : List (List (N0))))).bind fun yE => ((jC.f 0).bind fun H3 => ((H4.f k 0 96 (([(([(⟨0, 3, 0, 0, 0, (⟨#[]⟩ : ByteArray)⟩ : N0), (⟨H3.1, H3.2.1, H3.2.2.1, H3.2.2.2.1, H3.2.2.2.2.1, H3.2.2.2.2.2⟩ : N0)] : List (N0)))] : List (List (N0))))).bind fun vC => ((I8.f k (⟨#[77, 84, 104, 120]⟩ : ByteArray)).bind fun pC => (if tB.2 = 0 then (if tB.1.toList = ([77, 84, 104, 100, 0, 0, 0, 6, 0, 0, 0, 1, 0, 96, 77, 84, 114, 107, 0, 0, 0, 4, 0, 255, 47, 0] : List UInt8) then (if wE.2.2.2.2 = 0 then (if wE.2.2.2.1 = 0 then ((V8.f k 0 96 V4 wE.1 wE.2.1 wE.2.2.1).bind fun qE => (if qE = true then (if fD.2.2.2.1 = 20 then (if fD.2.2.2.2 = 152 then (if M5.2 = 160 then (if yE.1 = 1 then (if yE.2 = 160 then (if vC.1 = 0 then (if vC.2 = 151 then (if pC.2.2.2.1 = 3 then (some (pC.2.2.2.2 == 160)) else (none)) else (none)) else (none)) else (none)) else (none)) else (none)) else (none)) else (none)) else (none))) else (none)) else (none)) else (none)) else (none))))))))) else (none)) else (none)))) = some r := by (have S6 := (Option.bind_some _ _).symm.trans H; rw [LI]; with_reducible exact S6)
 have ES := am LI; clear LI; replace H := L2 H; obtain ⟨⟨N7, l_⟩, f_, H⟩ := H; have A2 := am f_; clear f_; replace H := L2 H; obtain ⟨⟨J4, g6, J3, E1, W9⟩, Q_, H⟩ := H; have A3 := am Q_; clear Q_; obtain ⟨ZB, TI⟩ : ∃ j_ : Int, (mn (N7.size : Int) 20) = j_ := ⟨_, rfl⟩
 replace H : (if 0 ≤ (ZB) then (if (ZB) ≤ (N7.size : Int) then ((I8.f k (N7.extract 0 ((ZB) : Int).toNat)).bind fun fD => ((H4.f k 0 96 ([] : List (List (N0)))).bind fun M5 => ((jC.f 0).bind fun Z8 => ((H4.f k 1 96 (([(([(⟨Z8.1, Z8.2.1, Z8.2.2.1, Z8.2.2.2.1, Z8.2.2.2.2.1, Z8.2.2.2.2.2⟩ : N0)] : List (N0))), []] : List (List (N0))))).bind fun yE => ((jC.f 0).bind fun H3 => ((H4.f k 0 96 (([(([(⟨0, 3, 0, 0, 0, (⟨#[]⟩ : ByteArray)⟩ : N0), (⟨H3.1, H3.2.1, H3.2.2.1, H3.2.2.2.1, H3.2.2.2.2.1, H3.2.2.2.2.2⟩ : N0)] : List (N0)))] : List (List (N0))))).bind fun vC => ((I8.f k (⟨#[77, 84, 104, 120]⟩ : ByteArray)).bind fun pC => (if l_ = 0 then (if N7.toList = ([77, 84, 104, 100, 0, 0, 0, 6, 0, 0, 0, 1, 0, 96, 77, 84, 114, 107, 0, 0, 0, 4, 0, 255, 47, 0] : List UInt8) then (if W9 = 0 then (if E1 = 0 then ((V8.f k 0 96 V4 J4 g6 J3).bind fun qE => (if qE = true then (if fD.2.2.2.1 = 20 then (if fD.2.2.2.2 = 152 then (if M5.2 = 160 then (if yE.1 = 1 then (if yE.2 = 160 then (if vC.1 = 0 then (if vC.2 = 151 then (if pC.2.2.2.1 = 3 then (some (pC.2.2.2.2 == 160)) else (none)) else (none)) else (none)) else (none)) else (none)) else (none)) else (none)) else (none)) else (none))) else (none)) else (none)) else (none)) else (none))))))))) else (none)) else (none)) = some r := by (rw [TI] at H; exact H)
 (try rw [TI] at A1); (try rw [TI] at A2); (try rw [TI] at A3); (try (have dx7 : ZB ≤ 20 := by (rw [← TI]; unfold mn; (repeat' split) <;> omega))); (try (have dw7 : ZB ≤ 64 := by omega)); (try (have fl6 : 0 ≤ ZB := by (rw [← TI]; unfold mn; (repeat' split) <;> omega))); (try (have et4 : 0 ≤ ZB := by omega)); have fp5 : (if 20 < (N7.size : Int) then 20 else (N7.size : Int)) = ZB := TI; by_cases c5 : 0 ≤ (ZB); rotate_left
 ·rw [if_neg c5] at H; exact absurd H (by simp)
 rw [if_pos c5] at H; have qC := eq_true c5; have DF : decide (0 ≤ (ZB)) = true := decide_eq_true c5; clear c5; by_cases c6 : (ZB) ≤ (N7.size : Int); rotate_left
 ·rw [if_neg c6] at H; exact absurd H (by simp)
 rw [if_pos c6] at H; have cC := eq_true c6; have CH : decide ((ZB) ≤ (N7.size : Int)) = true := decide_eq_true c6; clear c6; replace H := L2 H; obtain ⟨⟨MD, UE, L7, ED, PB⟩, nI, H⟩ := H; have A7 := am nI; clear nI; replace H := L2 H; obtain ⟨⟨oD, OB⟩, VF, H⟩ := H; have A8 := am VF; clear VF; replace H := L2 H; obtain ⟨⟨IB, zE, WK, PG, SG, DG⟩, TU, H⟩ := H; have A9 := am TU; clear TU; obtain ⟨MP, Lh⟩ : ∃ y_ : List (N0), y_ = (([(⟨IB, zE, WK, PG, SG, DG⟩ : N0)] : List (N0))) := ⟨_, rfl⟩
 replace H : ((H4.f k 1 96 (([MP, []] : List (List (N0))))).bind fun yE => ((jC.f 0).bind fun H3 => ((H4.f k 0 96 (([(([(⟨0, 3, 0, 0, 0, (⟨#[]⟩ : ByteArray)⟩ : N0), (⟨H3.1, H3.2.1, H3.2.2.1, H3.2.2.2.1, H3.2.2.2.2.1, H3.2.2.2.2.2⟩ : N0)] : List (N0)))] : List (List (N0))))).bind fun vC => ((I8.f k (⟨#[77, 84, 104, 120]⟩ : ByteArray)).bind fun pC => (if l_ = 0 then (if N7.toList = ([77, 84, 104, 100, 0, 0, 0, 6, 0, 0, 0, 1, 0, 96, 77, 84, 114, 107, 0, 0, 0, 4, 0, 255, 47, 0] : List UInt8) then (if W9 = 0 then (if E1 = 0 then ((V8.f k 0 96 V4 J4 g6 J3).bind fun qE => (if qE = true then (if ED = 20 then (if PB = 152 then (if OB = 160 then (if yE.1 = 1 then (if yE.2 = 160 then (if vC.1 = 0 then (if vC.2 = 151 then (if pC.2.2.2.1 = 3 then (some (pC.2.2.2.2 == 160)) else (none)) else (none)) else (none)) else (none)) else (none)) else (none)) else (none)) else (none)) else (none))) else (none)) else (none)) else (none)) else (none)))))) = some r := by (rw [Lh]; with_reducible exact H)
 have ch6 := am Lh; clear Lh; obtain ⟨TK, Ae⟩ : ∃ y_ : List (List (N0)), y_ = (([MP, []] : List (List (N0)))) := ⟨_, rfl⟩
 replace H : ((H4.f k 1 96 TK).bind fun yE => ((jC.f 0).bind fun H3 => ((H4.f k 0 96 (([(([(⟨0, 3, 0, 0, 0, (⟨#[]⟩ : ByteArray)⟩ : N0), (⟨H3.1, H3.2.1, H3.2.2.1, H3.2.2.2.1, H3.2.2.2.2.1, H3.2.2.2.2.2⟩ : N0)] : List (N0)))] : List (List (N0))))).bind fun vC => ((I8.f k (⟨#[77, 84, 104, 120]⟩ : ByteArray)).bind fun pC => (if l_ = 0 then (if N7.toList = ([77, 84, 104, 100, 0, 0, 0, 6, 0, 0, 0, 1, 0, 96, 77, 84, 114, 107, 0, 0, 0, 4, 0, 255, 47, 0] : List UInt8) then (if W9 = 0 then (if E1 = 0 then ((V8.f k 0 96 V4 J4 g6 J3).bind fun qE => (if qE = true then (if ED = 20 then (if PB = 152 then (if OB = 160 then (if yE.1 = 1 then (if yE.2 = 160 then (if vC.1 = 0 then (if vC.2 = 151 then (if pC.2.2.2.1 = 3 then (some (pC.2.2.2.2 == 160)) else (none)) else (none)) else (none)) else (none)) else (none)) else (none)) else (none)) else (none)) else (none))) else (none)) else (none)) else (none)) else (none)))))) = some r := by (rw [Ae]; with_reducible exact H)
 have bl9 := am Ae; clear Ae; replace H := L2 H; obtain ⟨⟨SN, QO⟩, aJ, H⟩ := H; have YI := am aJ; clear aJ; replace H := L2 H; obtain ⟨⟨KI, SI, yC, DO, wO, F9⟩, XF, H⟩ := H; have VE := am XF; clear XF; obtain ⟨OQ, Xe⟩ : ∃ y_ : List (N0), y_ = (([(⟨0, 3, 0, 0, 0, (⟨#[]⟩ : ByteArray)⟩ : N0), (⟨KI, SI, yC, DO, wO, F9⟩ : N0)] : List (N0))) := ⟨_, rfl⟩
 replace H : ((H4.f k 0 96 (([OQ] : List (List (N0))))).bind fun vC => ((I8.f k (⟨#[77, 84, 104, 120]⟩ : ByteArray)).bind fun pC => (if l_ = 0 then (if N7.toList = ([77, 84, 104, 100, 0, 0, 0, 6, 0, 0, 0, 1, 0, 96, 77, 84, 114, 107, 0, 0, 0, 4, 0, 255, 47, 0] : List UInt8) then (if W9 = 0 then (if E1 = 0 then ((V8.f k 0 96 V4 J4 g6 J3).bind fun qE => (if qE = true then (if ED = 20 then (if PB = 152 then (if OB = 160 then (if SN = 1 then (if QO = 160 then (if vC.1 = 0 then (if vC.2 = 151 then (if pC.2.2.2.1 = 3 then (some (pC.2.2.2.2 == 160)) else (none)) else (none)) else (none)) else (none)) else (none)) else (none)) else (none)) else (none)) else (none))) else (none)) else (none)) else (none)) else (none)))) = some r := by (rw [Xe]; with_reducible exact H)
 have ay4 := am Xe; clear Xe; obtain ⟨VX, Yg⟩ : ∃ y_ : List (List (N0)), y_ = (([OQ] : List (List (N0)))) := ⟨_, rfl⟩
 replace H : ((H4.f k 0 96 VX).bind fun vC => ((I8.f k (⟨#[77, 84, 104, 120]⟩ : ByteArray)).bind fun pC => (if l_ = 0 then (if N7.toList = ([77, 84, 104, 100, 0, 0, 0, 6, 0, 0, 0, 1, 0, 96, 77, 84, 114, 107, 0, 0, 0, 4, 0, 255, 47, 0] : List UInt8) then (if W9 = 0 then (if E1 = 0 then ((V8.f k 0 96 V4 J4 g6 J3).bind fun qE => (if qE = true then (if ED = 20 then (if PB = 152 then (if OB = 160 then (if SN = 1 then (if QO = 160 then (if vC.1 = 0 then (if vC.2 = 151 then (if pC.2.2.2.1 = 3 then (some (pC.2.2.2.2 == 160)) else (none)) else (none)) else (none)) else (none)) else (none)) else (none)) else (none)) else (none)) else (none))) else (none)) else (none)) else (none)) else (none)))) = some r := by (rw [Yg]; with_reducible exact H)
 have bu3 := am Yg; clear Yg; replace H := L2 H; obtain ⟨⟨TR, BT⟩, xI, H⟩ := H; have QH := am xI; clear xI; replace H := L2 H; obtain ⟨⟨sH, rI, lJ, kS, Pq⟩, tS, H⟩ := H; have Se := am tS; clear tS; by_cases F8 : l_ = 0; rotate_left
 ·rw [if_neg F8] at H; exact absurd H (by simp)
 rw [if_pos F8] at H; have DM : (l_ == 0) = true := beq_iff_eq.mpr F8; have Bc : (l_ != 0) = false := bne_eq_false_iff_eq.mpr F8; clear F8; by_cases i5 : N7.toList = ([77, 84, 104, 100, 0, 0, 0, 6, 0, 0, 0, 1, 0, 96, 77, 84, 114, 107, 0, 0, 0, 4, 0, 255, 47, 0] : List UInt8); rotate_left
 ·rw [if_neg i5] at H; exact absurd H (by simp)
 rw [if_pos i5] at H; have oJ : (N7.toList == ([77, 84, 104, 100, 0, 0, 0, 6, 0, 0, 0, 1, 0, 96, 77, 84, 114, 107, 0, 0, 0, 4, 0, 255, 47, 0] : List UInt8)) = true := beq_iff_eq.mpr i5; have ZN : (N7.toList != ([77, 84, 104, 100, 0, 0, 0, 6, 0, 0, 0, 1, 0, 96, 77, 84, 114, 107, 0, 0, 0, 4, 0, 255, 47, 0] : List UInt8)) = false := bne_eq_false_iff_eq.mpr i5; clear i5; by_cases Q8 : W9 = 0; rotate_left
 ·rw [if_neg Q8] at H; exact absurd H (by simp)
 rw [if_pos Q8] at H; have XU : (W9 == 0) = true := beq_iff_eq.mpr Q8; have ax4 : (W9 != 0) = false := bne_eq_false_iff_eq.mpr Q8; clear Q8; by_cases l7 : E1 = 0; rotate_left
 ·rw [if_neg l7] at H; exact absurd H (by simp)
 rw [if_pos l7] at H; have wH : (E1 == 0) = true := beq_iff_eq.mpr l7; have FS : (E1 != 0) = false := bne_eq_false_iff_eq.mpr l7; clear l7; replace H := L2 H; obtain ⟨qE, JT, H⟩ := H; have Fe := am JT; clear JT; by_cases N8 : qE = true; rotate_left
 ·replace N8 := Bool.eq_false_iff.mpr N8; subst N8; have H1 : (none) = some r := by rw [if_neg (show ¬ (false = true) by decide)] at H; exact H
  clear H; have H := H1; clear H1; exact absurd H (by simp)
 subst N8; have H1 : (if ED = 20 then (if PB = 152 then (if OB = 160 then (if SN = 1 then (if QO = 160 then (if TR = 0 then (if BT = 151 then (if kS = 3 then (some (Pq == 160)) else (none)) else (none)) else (none)) else (none)) else (none)) else (none)) else (none)) else (none)) = some r := by rw [if_pos rfl] at H; exact H
 clear H; have H := H1; clear H1; by_cases K5 : ED = 20; rotate_left
 ·rw [if_neg K5] at H; exact absurd H (by simp)
 rw [if_pos K5] at H; have qI : (ED == 20) = true := beq_iff_eq.mpr K5; have qU : (ED != 20) = false := bne_eq_false_iff_eq.mpr K5; clear K5; by_cases q7 : PB = 152; rotate_left
 ·rw [if_neg q7] at H; exact absurd H (by simp)
 rw [if_pos q7] at H; have WI : (PB == 152) = true := beq_iff_eq.mpr q7; have TX : (PB != 152) = false := bne_eq_false_iff_eq.mpr q7; clear q7; by_cases P5 : OB = 160; rotate_left
 ·rw [if_neg P5] at H; exact absurd H (by simp)
 rw [if_pos P5] at H; have RG : (OB == 160) = true := beq_iff_eq.mpr P5; have wW : (OB != 160) = false := bne_eq_false_iff_eq.mpr P5; clear P5; by_cases L5 : SN = 1; rotate_left
 ·rw [if_neg L5] at H; exact absurd H (by simp)
 rw [if_pos L5] at H; have EF : (SN == 1) = true := beq_iff_eq.mpr L5; have iL : (SN != 1) = false := bne_eq_false_iff_eq.mpr L5; clear L5; by_cases b6 : QO = 160; rotate_left
 ·rw [if_neg b6] at H; exact absurd H (by simp)
 rw [if_pos b6] at H; have SE : (QO == 160) = true := beq_iff_eq.mpr b6; have XN : (QO != 160) = false := bne_eq_false_iff_eq.mpr b6; clear b6; by_cases j5 : TR = 0; rotate_left
 ·rw [if_neg j5] at H; exact absurd H (by simp)
 rw [if_pos j5] at H; have xE : (TR == 0) = true := beq_iff_eq.mpr j5; have NK : (TR != 0) = false := bne_eq_false_iff_eq.mpr j5; clear j5; by_cases i6 : BT = 151; rotate_left
 ·rw [if_neg i6] at H; exact absurd H (by simp)
 rw [if_pos i6] at H; have JN : (BT == 151) = true := beq_iff_eq.mpr i6; have jQ : (BT != 151) = false := bne_eq_false_iff_eq.mpr i6; clear i6; by_cases Q6 : kS = 3; rotate_left
 ·rw [if_neg Q6] at H; exact absurd H (by simp)
 rw [if_pos Q6] at H; have iO : (kS == 3) = true := beq_iff_eq.mpr Q6; have Hb : (kS != 3) = false := bne_eq_false_iff_eq.mpr Q6; clear Q6; obtain rfl := Option.some.inj H; go_enter Try.func11, Try.ntmps11; go_wp2_with (first | ((with_reducible refine H2 (f := 13) rfl ?_); refine G2 (some 19) rfl rfl Try.func13 (by kernel_rfl) rfl #[.int .i64 0] rfl F2 ?_; (with_reducible refine (jC.calls 0 t101 t102 t103 t104 t105 t106 _ A1.out).mono ?_); rintro e Oi ⟨rfl, G⟩; refine ⟨_, rfl, ?_⟩; replace I := am (T0 (qB I.out) G); ) | ((with_reducible refine P2 (N := 20) rfl ?_); refine Kd.PF L3 _ 28 ?hg (N := 20) ?hd (xs := ([(⟨t101, t102, t103, t104, t105, t106⟩ : N0)] : List (N0))) (inner := [.int .i64 t101, .int .i64 t102, .int .i64 t103, .int .i64 t104, .int .i64 t105, .string t106]) (ok := fun _ => True) (okp := fun _ => True) ?hr ?hp (fun _ X => X) trivial (Below.refl _ _) (Nat.le_refl _) (by simp) ?_; (case hd => rfl); (case hg => rfl); (case hr => exact Z2); (case hp => exact (J2.c6 (show Kd.M L3 _ _ _ (⟨t101, t102, t103, t104, t105, t106⟩ : N0) [.int .i64 t101, .int .i64 t102, .int .i64 t103, .int .i64 t104, .int .i64 t105, .string t106] from (QJ _ _ _ (⟨t101, t102, t103, t104, t105, t106⟩ : N0) )) (J2.none _ _))); intro kG MT Rf G i3 e7; clear i3 e7; (rw [← MG.out] at Rf); have r_ := am (Kd.j9 Rf (S3 (qB I.out))); replace I := am (T0 (qB I.out) G); clear G Rf; obtain ⟨Ap, Mx, bi2⟩ := Kd.Q9 r_.out; subst bi2) | ((with_reducible refine P2 (N := 21) rfl ?_); refine Kd.OZ (Kd.slice 28 L3) _ 30 ?hg (N' := 21) ?hd (xs := ([R3] : List (List (N0)))) (inner := [.slice Ap R3.length Mx]) (ok := (fun _ => True)) (okp := (fun _ => True)) ?hr ?hp (fun _ X => X) ((show ∀ k_, MT.heap.size ≤ k_ → (fun _ => True) k_ from fun k_ X => trivial) _ (Nat.le_refl _)) (Below.refl _ _) (Nat.le_refl _) (by simp) ?_; (case hd => rfl); (case hg => rfl); (case hr => exact Z2); (case hp => exact (J2.one (show Kd.FK (Kd.slice 28 L3) _ _ R3 [.slice Ap R3.length Mx] from (Kd.DR (Kd.n_ (Kd.Y5 (ok' := (fun _ => True)) (r_.out) (fun k_ X => trivial))).2.1 (Kd.fV (Kd.Y5 (ok' := (fun _ => True)) (r_.out) (fun k_ X => trivial))))) (J2.none _ _))); intro QL yM Cd G i3 e7; clear i3 e7; (rw [← ES.out] at Cd); have P4 := am (Kd.NF Cd (S3 (qB I.out))); replace I := am (T0 (qB I.out) G); clear r_; clear G Cd; obtain ⟨FC, XB, Ng⟩ := Kd.VD P4.out; subst Ng) | ((with_reducible refine P2 (N := 1) rfl ?_); refine D3 ?hg (N := 1) ?hd (cs := #[.int .i64 0, .int .i64 0, .slice none 0 0]) (t := 24) ?hr ?_; (case hd => rfl); (case hg => rfl); (case hr => exact Z2); intro H_ hg qW M0 G; replace P4 := am (Kd.Y3 (Kd.CG (qN P4.out) H_ (Nat.le_of_eq hg.symm)) G); have g7 := am (M0); have fa8 := am ((U2 : w.heap.size ≤ H_)); have Z_ := am ((U2 : w.heap.size ≤ H_)); replace I := am (T0 (qB I.out) G); clear G M0 hg; obtain ⟨RW, YV, MY, BX, SX, KV⟩ := V2 g7.out) | ((with_reducible refine H2 (f := 15) rfl ?_); refine G2 (some 25) rfl rfl Try.func15 (by kernel_rfl) rfl #[.agg #[.int .i64 0, .int .i64 96, .slice FC V4.length XB]] rfl F2 ?_; (with_reducible refine (Q5.calls k 0 96 _ _ V4 N7 l_ _ ?side1 ?side2 A2.out).mono ?_); (case side1 => refine (Kd.iA (e := 30) (base := w.heap.size) (ok := fun k_ => (True ∧ k_ ≠ H_)) (n := V4.length) (c := XB) ?_).2.2; exact qqF); (case side2 => exact (Kd.iA P4.out).2.1); rintro e NV ⟨rfl, G⟩; refine ⟨_, rfl, ?_⟩; replace P4 := am (Kd.Y3 qqF G); replace g7 := am (O0 (g := H_) (o := .cells #[.int .i64 0, .int .i64 96, .slice FC V4.length XB] 24 (0, 0)) (by refine bq ?_; refine J0 (cs := #[.int .i64 0, .int .i64 96, .slice none 0 0]) ?_ 2 _ rfl; refine bq ?_; refine J0 (cs := #[.int .i64 0, .int .i64 0, .slice none 0 0]) ?_ 1 _ rfl; refine bq ?_; refine J0 (cs := #[.int .i64 0, .int .i64 0, .slice none 0 0]) ?_ 0 _ rfl; exact bq g7.out) G); replace I := am (T0 (S0 Z_ I.out) G); ) | ((with_reducible refine H2 (f := 21) rfl ?_); refine G2 (some 30) rfl rfl Try.func21 (by kernel_rfl) rfl #[.string N7] rfl F2 ?_; (with_reducible refine (I8.calls k N7 J4 g6 J3 E1 W9 _ A3.out).mono ?_); rintro e w38 ⟨dv1, rfl, T3, G⟩; refine ⟨_, rfl, ?_⟩; have T8 := am (Kd.NF (Kd.J6 (ok' := fun k_ => some k_ ≠ (.slice FC V4.length XB : Value).ownBlock ∧ k_ ≠ H_) (Kd.tL (Kd.bI T3)) (fun k_ n4 => ⟨(Kd.I7 (Kd.B_ (qN P4.out)) k_ n4.2.1), (Kd.M8 (bq g7.out) k_ n4.2.1)⟩)) (S3 (S0 Z_ I.out))); replace P4 := am (Kd.o8 (qN P4.out) PM G); replace g7 := am (O0 (bq g7.out) G); replace I := am (T0 (S0 Z_ I.out) G); ) | ((with_reducible refine P2 (N := 4) rfl ?_); refine D3 ?hg (N := 4) ?hd (cs := #[.int .i64 0, .int .i64 0, .slice none 0 0]) (t := 24) ?hr ?_; (case hd => rfl); (case hg => rfl); (case hr => exact Z2); intro O8 hg Jz M0 G; replace P4 := am (Kd.Y3 (Kd.CG (qN P4.out) O8 (Nat.le_of_eq hg.symm)) G); replace T8 := am (Kd.Y3 (Kd.CG (qN T8.out) O8 (Nat.le_of_eq hg.symm)) G); have l8 := am (M0); have ck8 := am ((by rw [hg]; exact (S3 (S0 Z_ I.out)) : w.heap.size ≤ O8)); have ZA := am ((by rw [hg]; exact (S3 (S0 Z_ I.out)) : w.heap.size ≤ O8)); replace I := am (T0 (S0 Z_ I.out) G); have bO := am ((by rw [hg]; exact Nat.ne_of_lt (K8 (bq g7.out)) : H_ ≠ O8)); have bi3 := am ((by rw [hg]; exact Nat.ne_of_gt (K8 (bq g7.out)) : O8 ≠ H_)); replace g7 := am (O0 (bq g7.out) G); clear G M0 hg; have So := bi3.out; have Hr := bO.out; obtain ⟨yP, FP, VQ, SP, bQ, IQ⟩ := V2 l8.out; obtain ⟨DD, vD, bx4⟩ := Kd.VD T8.out; subst bx4) | ((with_reducible refine H2 (f := 21) rfl ?_); refine G2 (some 40) rfl rfl Try.func21 (by kernel_rfl) rfl #[.string (N7.extract 0 ((ZB) : Int).toNat)] rfl F2 ?_; (with_reducible refine (I8.calls k (N7.extract 0 ((ZB) : Int).toNat) MD UE L7 ED PB _ A7.out).mono ?_); rintro e Yf ⟨Js, rfl, T3, G⟩; refine ⟨_, rfl, ?_⟩; have C9 := am (Kd.NF (Kd.J6 (ok' := fun k_ => some k_ ≠ (.slice FC V4.length XB : Value).ownBlock ∧ some k_ ≠ (.slice DD J3.length vD : Value).ownBlock ∧ k_ ≠ H_ ∧ k_ ≠ O8) (Kd.tL (Kd.bI T3)) (fun k_ n4 => ⟨(Kd.I7 (Kd.B_ qqD) k_ n4.2.1), (Kd.I7 (Kd.B_ qqC) k_ n4.2.1), (Kd.M8 (g := H_) (o := .cells #[.int .i64 0, .int .i64 96, .slice FC V4.length XB] 24 (0, 0)) (by refine bq ?_; refine P0 ?_ bO.out _; refine bq ?_; refine P0 ?_ bO.out _; refine bq ?_; refine P0 ?_ bO.out _; exact bq g7.out) k_ n4.2.1), (Kd.M8 (g := O8) (o := .cells #[.int .i64 J4, .int .i64 g6, .slice DD J3.length vD] 24 (0, 0)) (by refine bq ?_; refine J0 (cs := #[.int .i64 J4, .int .i64 g6, .slice none 0 0]) ?_ 2 _ rfl; refine bq ?_; refine J0 (cs := #[.int .i64 J4, .int .i64 0, .slice none 0 0]) ?_ 1 _ rfl; refine bq ?_; refine J0 (cs := #[.int .i64 0, .int .i64 0, .slice none 0 0]) ?_ 0 _ rfl; exact bq l8.out) k_ n4.2.1)⟩)) (S3 (X2 Z_ ZA I.out))); replace P4 := am (Kd.o8 qqD PM G); replace T8 := am (Kd.o8 qqC PM G); replace g7 := am (O0 (g := H_) (o := .cells #[.int .i64 0, .int .i64 96, .slice FC V4.length XB] 24 (0, 0)) (by refine bq ?_; refine P0 ?_ bO.out _; refine bq ?_; refine P0 ?_ bO.out _; refine bq ?_; refine P0 ?_ bO.out _; exact bq g7.out) G); replace l8 := am (O0 (g := O8) (o := .cells #[.int .i64 J4, .int .i64 g6, .slice DD J3.length vD] 24 (0, 0)) (by refine bq ?_; refine J0 (cs := #[.int .i64 J4, .int .i64 g6, .slice none 0 0]) ?_ 2 _ rfl; refine bq ?_; refine J0 (cs := #[.int .i64 J4, .int .i64 0, .slice none 0 0]) ?_ 1 _ rfl; refine bq ?_; refine J0 (cs := #[.int .i64 0, .int .i64 0, .slice none 0 0]) ?_ 0 _ rfl; exact bq l8.out) G); replace I := am (T0 (X2 Z_ ZA I.out) G); ) | ((with_reducible refine P2 (N := 7) rfl ?_); refine D3 ?hg (N := 7) ?hd (cs := #[.int .i64 0, .int .i64 0, .slice none 0 0]) (t := 24) ?hr ?_; (case hd => rfl); (case hg => rfl); (case hr => exact Z2); intro N9 hg w44 M0 G; replace P4 := am (Kd.Y3 (Kd.CG (qN P4.out) N9 (Nat.le_of_eq hg.symm)) G); replace T8 := am (Kd.Y3 (Kd.CG (qN T8.out) N9 (Nat.le_of_eq hg.symm)) G); replace C9 := am (Kd.Y3 (Kd.CG (qN C9.out) N9 (Nat.le_of_eq hg.symm)) G); have d_ := am (M0); have dy9 := am ((by rw [hg]; exact (S3 (X2 Z_ ZA I.out)) : w.heap.size ≤ N9)); have dD := am ((by rw [hg]; exact (S3 (X2 Z_ ZA I.out)) : w.heap.size ≤ N9)); replace I := am (T0 (X2 Z_ ZA I.out) G); have qY := am ((by rw [hg]; exact Nat.ne_of_lt (K8 (bq g7.out)) : H_ ≠ N9)); have cj0 := am ((by rw [hg]; exact Nat.ne_of_gt (K8 (bq g7.out)) : N9 ≠ H_)); replace g7 := am (O0 (bq g7.out) G); have MV := am ((by rw [hg]; exact Nat.ne_of_lt (K8 (bq l8.out)) : O8 ≠ N9)); have bc5 := am ((by rw [hg]; exact Nat.ne_of_gt (K8 (bq l8.out)) : N9 ≠ O8)); replace l8 := am (O0 (bq l8.out) G); clear G M0 hg; have cd0 := cj0.out; have ca1 := qY.out; have eh1 := bc5.out; have ee9 := MV.out; obtain ⟨bw6, cb3, bh3, cd6, ci5, bc9⟩ := V2 d_.out; obtain ⟨TE, WE, be8⟩ := Kd.VD C9.out; subst be8) | ((with_reducible refine H2 (f := 24) rfl ?_); refine G2 (some 46) rfl rfl Try.func24 (by kernel_rfl) rfl #[.agg #[.int .i64 0, .int .i64 96, .slice none 0 0]] rfl F2 ?_; (refine (H4.calls k 0 96 _ _ ([] : List (List (N0))) oD OB _ ?side1 ?side2 A8.out).mono ?_); (case side1 => exact Kd.as7 _ _); (case side2 => exact Nat.le_refl _); rintro e w49 ⟨rfl, G⟩; refine ⟨_, rfl, ?_⟩; replace P4 := am (Kd.Y3 (by (with_reducible repeat (first | apply Kd.eC | apply Kd.gC | apply Kd.eB)); exact (Kd.J6 (Kd.H6 (p := ⟨N9, 2, none⟩) (Kd.H6 (p := ⟨N9, 1, none⟩) (Kd.H6 (p := ⟨N9, 0, none⟩) (Kd.J6 P4.out (fun k_ X => (⟨X, X.2⟩ : _ ∧ k_ ≠ N9))) (fun _ X => X.2) (.int .i64 MD)) (fun _ X => X.2) (.int .i64 UE)) (fun _ X => X.2) (.slice TE L7.length WE)) (fun _ h_ => h_.1))) G); replace T8 := am (Kd.Y3 (by (with_reducible repeat (first | apply Kd.eC | apply Kd.gC | apply Kd.eB)); exact (Kd.J6 (Kd.H6 (p := ⟨N9, 2, none⟩) (Kd.H6 (p := ⟨N9, 1, none⟩) (Kd.H6 (p := ⟨N9, 0, none⟩) (Kd.J6 T8.out (fun k_ X => (⟨X, X.2⟩ : _ ∧ k_ ≠ N9))) (fun _ X => X.2) (.int .i64 MD)) (fun _ X => X.2) (.int .i64 UE)) (fun _ X => X.2) (.slice TE L7.length WE)) (fun _ h_ => h_.1))) G); replace C9 := am (Kd.Y3 (by (with_reducible repeat (first | apply Kd.eC | apply Kd.gC | apply Kd.eB)); exact (Kd.J6 (Kd.H6 (p := ⟨N9, 2, none⟩) (Kd.H6 (p := ⟨N9, 1, none⟩) (Kd.H6 (p := ⟨N9, 0, none⟩) (Kd.J6 C9.out (fun k_ X => (⟨X, X.2⟩ : _ ∧ k_ ≠ N9))) (fun _ X => X.2) (.int .i64 MD)) (fun _ X => X.2) (.int .i64 UE)) (fun _ X => X.2) (.slice TE L7.length WE)) (fun _ h_ => h_.1))) G); replace g7 := am (O0 (g := H_) (o := .cells #[.int .i64 0, .int .i64 96, .slice FC V4.length XB] 24 (0, 0)) (by refine bq ?_; refine P0 ?_ qY.out _; refine bq ?_; refine P0 ?_ qY.out _; refine bq ?_; refine P0 ?_ qY.out _; exact bq g7.out) G); replace l8 := am (O0 (g := O8) (o := .cells #[.int .i64 J4, .int .i64 g6, .slice DD J3.length vD] 24 (0, 0)) (by refine bq ?_; refine P0 ?_ MV.out _; refine bq ?_; refine P0 ?_ MV.out _; refine bq ?_; refine P0 ?_ MV.out _; exact bq l8.out) G); replace d_ := am (O0 (g := N9) (o := .cells #[.int .i64 MD, .int .i64 UE, .slice TE L7.length WE] 24 (0, 0)) (by refine bq ?_; refine J0 (cs := #[.int .i64 MD, .int .i64 UE, .slice none 0 0]) ?_ 2 _ rfl; refine bq ?_; refine J0 (cs := #[.int .i64 MD, .int .i64 0, .slice none 0 0]) ?_ 1 _ rfl; refine bq ?_; refine J0 (cs := #[.int .i64 0, .int .i64 0, .slice none 0 0]) ?_ 0 _ rfl; exact bq d_.out) G); replace I := am (T0 (D2 Z_ ZA dD I.out) G); ) | ((with_reducible refine H2 (f := 13) rfl ?_); refine G2 (some 50) rfl rfl Try.func13 (by kernel_rfl) rfl #[.int .i64 0] rfl F2 ?_; (with_reducible refine (jC.calls 0 IB zE WK PG SG DG _ A9.out).mono ?_); rintro e w50 ⟨rfl, G⟩; refine ⟨_, rfl, ?_⟩; replace P4 := am (Kd.Y3 (qN P4.out) G); replace T8 := am (Kd.Y3 (qN T8.out) G); replace C9 := am (Kd.Y3 (qN C9.out) G); replace g7 := am (O0 (bq g7.out) G); replace l8 := am (O0 (bq l8.out) G); replace d_ := am (O0 (bq d_.out) G); replace I := am (T0 (D2 Z_ ZA dD I.out) G); ) | ((with_reducible refine P2 (N := 51) rfl ?_); refine Kd.PF L3 _ 28 ?hg (N := 51) ?hd (xs := ([(⟨IB, zE, WK, PG, SG, DG⟩ : N0)] : List (N0))) (inner := [.int .i64 IB, .int .i64 zE, .int .i64 WK, .int .i64 PG, .int .i64 SG, .string DG]) (ok := fun _ => True) (okp := fun _ => True) ?hr ?hp (fun _ X => X) trivial (Below.refl _ _) (Nat.le_refl _) (by simp) ?_; (case hd => rfl); (case hg => rfl); (case hr => exact Z2); (case hp => exact (J2.c6 (show Kd.M L3 _ _ _ (⟨IB, zE, WK, PG, SG, DG⟩ : N0) [.int .i64 IB, .int .i64 zE, .int .i64 WK, .int .i64 PG, .int .i64 SG, .string DG] from (QJ _ _ _ (⟨IB, zE, WK, PG, SG, DG⟩ : N0) )) (J2.none _ _))); intro fp0 Wb KP G i3 e7; clear i3 e7; (rw [← ch6.out] at KP); replace P4 := am (Kd.o8 (qN P4.out) (Kd.A_ KP) G); replace T8 := am (Kd.o8 (qN T8.out) (Kd.A_ KP) G); replace C9 := am (Kd.o8 (qN C9.out) (Kd.A_ KP) G); have cX := am (Kd.j9 KP (S3 (D2 Z_ ZA dD I.out))); replace g7 := am (O0 (bq g7.out) G); replace l8 := am (O0 (bq l8.out) G); replace d_ := am (O0 (bq d_.out) G); replace I := am (T0 (D2 Z_ ZA dD I.out) G); clear G KP; obtain ⟨yQ, DP, Fb⟩ := Kd.Q9 cX.out; subst Fb) | ((with_reducible refine P2 (N := 52) rfl ?_); refine Kd.OZ (Kd.slice 28 L3) _ 30 ?hg (N' := 52) ?hd (xs := ([MP, []] : List (List (N0)))) (inner := [.slice yQ MP.length DP, .slice none 0 0]) (ok := (fun k_ => some k_ ≠ (.slice FC V4.length XB : Value).ownBlock ∧ some k_ ≠ (.slice DD J3.length vD : Value).ownBlock ∧ some k_ ≠ (.slice TE L7.length WE : Value).ownBlock ∧ k_ ≠ H_ ∧ k_ ≠ O8 ∧ k_ ≠ N9)) (okp := (fun k_ => some k_ ≠ (.slice FC V4.length XB : Value).ownBlock ∧ some k_ ≠ (.slice DD J3.length vD : Value).ownBlock ∧ some k_ ≠ (.slice TE L7.length WE : Value).ownBlock ∧ k_ ≠ H_ ∧ k_ ≠ O8 ∧ k_ ≠ N9)) ?hr ?hp (fun _ X => X) ((show ∀ k_, Wb.heap.size ≤ k_ → (fun k_ => some k_ ≠ (.slice FC V4.length XB : Value).ownBlock ∧ some k_ ≠ (.slice DD J3.length vD : Value).ownBlock ∧ some k_ ≠ (.slice TE L7.length WE : Value).ownBlock ∧ k_ ≠ H_ ∧ k_ ≠ O8 ∧ k_ ≠ N9) k_ from fun k_ X => ⟨Kd.I7 (Kd.B_ (qN P4.out)) k_ X, Kd.I7 (Kd.B_ (qN T8.out)) k_ X, Kd.I7 (Kd.B_ (qN C9.out)) k_ X, Kd.M8 (bq g7.out) k_ X, Kd.M8 (bq l8.out) k_ X, Kd.M8 (bq d_.out) k_ X⟩) _ (Nat.le_refl _)) (Below.refl _ _) (Nat.le_refl _) (by simp) ?_; (case hd => rfl); (case hg => rfl); (case hr => exact Z2); (case hp => exact (J2.one (show Kd.FK (Kd.slice 28 L3) _ _ MP [.slice yQ MP.length DP] from (Kd.DR (Kd.n_ (Kd.Y5 (ok' := (fun k_ => some k_ ≠ (.slice FC V4.length XB : Value).ownBlock ∧ some k_ ≠ (.slice DD J3.length vD : Value).ownBlock ∧ some k_ ≠ (.slice TE L7.length WE : Value).ownBlock ∧ k_ ≠ H_ ∧ k_ ≠ O8 ∧ k_ ≠ N9)) (Kd.kA (Kd.kA (Kd.kA (Kd.RB (Kd.RB (Kd.RB (cX.out) (Kd.aE P4.out) (by decide)) (Kd.aE T8.out) (by decide)) (Kd.aE C9.out) (by decide)) g7.out (by decide)) l8.out (by decide)) d_.out (by decide)) (fun k_ X => ⟨X.1.1.1.1.1.2, ⟨X.1.1.1.1.2, ⟨X.1.1.1.2, ⟨X.1.1.2, ⟨X.1.2, X.2⟩⟩⟩⟩⟩))).2.1 (Kd.fV (Kd.Y5 (ok' := (fun k_ => some k_ ≠ (.slice FC V4.length XB : Value).ownBlock ∧ some k_ ≠ (.slice DD J3.length vD : Value).ownBlock ∧ some k_ ≠ (.slice TE L7.length WE : Value).ownBlock ∧ k_ ≠ H_ ∧ k_ ≠ O8 ∧ k_ ≠ N9)) (Kd.kA (Kd.kA (Kd.kA (Kd.RB (Kd.RB (Kd.RB (cX.out) (Kd.aE P4.out) (by decide)) (Kd.aE T8.out) (by decide)) (Kd.aE C9.out) (by decide)) g7.out (by decide)) l8.out (by decide)) d_.out (by decide)) (fun k_ X => ⟨X.1.1.1.1.1.2, ⟨X.1.1.1.1.2, ⟨X.1.1.1.2, ⟨X.1.1.2, ⟨X.1.2, X.2⟩⟩⟩⟩⟩))))) (J2.one (show Kd.FK (Kd.slice 28 L3) _ _ [] [.slice none 0 0] from (Kd.DR (Nat.le_refl _) (Kd.aq8 _ _ _))) (J2.none _ _)))); intro fd2 Pb cQ G i3 e7; clear i3 e7; (rw [← bl9.out] at cQ); replace P4 := am (Kd.o8 (qN P4.out) (Kd.qL cQ) G); replace T8 := am (Kd.o8 (qN T8.out) (Kd.qL cQ) G); replace C9 := am (Kd.o8 (qN C9.out) (Kd.qL cQ) G); have uC := am (Kd.NF cQ (S3 (D2 Z_ ZA dD I.out))); replace g7 := am (O0 (bq g7.out) G); replace l8 := am (O0 (bq l8.out) G); replace d_ := am (O0 (bq d_.out) G); replace I := am (T0 (D2 Z_ ZA dD I.out) G); clear cX; clear G cQ; obtain ⟨jO, zO, bz3⟩ := Kd.VD uC.out; subst bz3) | ((with_reducible refine H2 (f := 24) rfl ?_); refine G2 (some 54) rfl rfl Try.func24 (by kernel_rfl) rfl #[.agg #[.int .i64 1, .int .i64 96, .slice jO TK.length zO]] rfl F2 ?_; (with_reducible refine (H4.calls k 1 96 _ _ TK SN QO _ ?side1 ?side2 YI.out).mono ?_); (case side1 => repeat (exact (Kd.iA uC.out).2.2)); (case side2 => exact (Kd.iA uC.out).2.1); rintro e Jh ⟨rfl, G⟩; refine ⟨_, rfl, ?_⟩; replace P4 := am (Kd.Y3 (qN P4.out) G); replace T8 := am (Kd.Y3 (qN T8.out) G); replace C9 := am (Kd.Y3 (qN C9.out) G); replace uC := am (Kd.Y3 (qN uC.out) G); replace g7 := am (O0 (bq g7.out) G); replace l8 := am (O0 (bq l8.out) G); replace d_ := am (O0 (bq d_.out) G); replace I := am (T0 (D2 Z_ ZA dD I.out) G); ) | ((with_reducible refine H2 (f := 13) rfl ?_); refine G2 (some 59) rfl rfl Try.func13 (by kernel_rfl) rfl #[.int .i64 0] rfl F2 ?_; (with_reducible refine (jC.calls 0 KI SI yC DO wO F9 _ VE.out).mono ?_); rintro e uY ⟨rfl, G⟩; refine ⟨_, rfl, ?_⟩; replace P4 := am (Kd.Y3 (qN P4.out) G); replace T8 := am (Kd.Y3 (qN T8.out) G); replace C9 := am (Kd.Y3 (qN C9.out) G); replace uC := am (Kd.Y3 (qN uC.out) G); replace g7 := am (O0 (bq g7.out) G); replace l8 := am (O0 (bq l8.out) G); replace d_ := am (O0 (bq d_.out) G); replace I := am (T0 (D2 Z_ ZA dD I.out) G); ) | ((with_reducible refine P2 (N := 60) rfl ?_); refine Kd.PF L3 _ 28 ?hg (N := 60) ?hd (xs := ([(⟨0, 3, 0, 0, 0, (⟨#[]⟩ : ByteArray)⟩ : N0), (⟨KI, SI, yC, DO, wO, F9⟩ : N0)] : List (N0))) (inner := [.int .i64 0, .int .i64 3, .int .i64 0, .int .i64 0, .int .i64 0, .string (⟨#[]⟩ : ByteArray), .int .i64 KI, .int .i64 SI, .int .i64 yC, .int .i64 DO, .int .i64 wO, .string F9]) (ok := fun _ => True) (okp := fun _ => True) ?hr ?hp (fun _ X => X) trivial (Below.refl _ _) (Nat.le_refl _) (by simp) ?_; (case hd => rfl); (case hg => rfl); (case hr => exact Z2); (case hp => exact (J2.c6 (show Kd.M L3 _ _ _ (⟨0, 3, 0, 0, 0, (⟨#[]⟩ : ByteArray)⟩ : N0) [.int .i64 0, .int .i64 3, .int .i64 0, .int .i64 0, .int .i64 0, .string (⟨#[]⟩ : ByteArray)] from (QJ _ _ _ (⟨0, 3, 0, 0, 0, (⟨#[]⟩ : ByteArray)⟩ : N0) )) (J2.c6 (show Kd.M L3 _ _ _ (⟨KI, SI, yC, DO, wO, F9⟩ : N0) [.int .i64 KI, .int .i64 SI, .int .i64 yC, .int .i64 DO, .int .i64 wO, .string F9] from (QJ _ _ _ (⟨KI, SI, yC, DO, wO, F9⟩ : N0) )) (J2.none _ _)))); intro es4 Zw PN G i3 e7; clear i3 e7; (rw [← ay4.out] at PN); replace P4 := am (Kd.o8 (qN P4.out) (Kd.A_ PN) G); replace T8 := am (Kd.o8 (qN T8.out) (Kd.A_ PN) G); replace C9 := am (Kd.o8 (qN C9.out) (Kd.A_ PN) G); replace uC := am (Kd.o8 (qN uC.out) (Kd.A_ PN) G); have QV := am (Kd.j9 PN (S3 (D2 Z_ ZA dD I.out))); replace g7 := am (O0 (bq g7.out) G); replace l8 := am (O0 (bq l8.out) G); replace d_ := am (O0 (bq d_.out) G); replace I := am (T0 (D2 Z_ ZA dD I.out) G); clear G PN; obtain ⟨pW, MX, Ef⟩ := Kd.Q9 QV.out; subst Ef) | ((with_reducible refine P2 (N := 61) rfl ?_); refine Kd.OZ (Kd.slice 28 L3) _ 30 ?hg (N' := 61) ?hd (xs := ([OQ] : List (List (N0)))) (inner := [.slice pW OQ.length MX]) (ok := (fun k_ => some k_ ≠ (.slice FC V4.length XB : Value).ownBlock ∧ some k_ ≠ (.slice DD J3.length vD : Value).ownBlock ∧ some k_ ≠ (.slice TE L7.length WE : Value).ownBlock ∧ some k_ ≠ (.slice jO TK.length zO : Value).ownBlock ∧ k_ ≠ H_ ∧ k_ ≠ O8 ∧ k_ ≠ N9)) (okp := (fun k_ => some k_ ≠ (.slice FC V4.length XB : Value).ownBlock ∧ some k_ ≠ (.slice DD J3.length vD : Value).ownBlock ∧ some k_ ≠ (.slice TE L7.length WE : Value).ownBlock ∧ some k_ ≠ (.slice jO TK.length zO : Value).ownBlock ∧ k_ ≠ H_ ∧ k_ ≠ O8 ∧ k_ ≠ N9)) ?hr ?hp (fun _ X => X) ((show ∀ k_, Zw.heap.size ≤ k_ → (fun k_ => some k_ ≠ (.slice FC V4.length XB : Value).ownBlock ∧ some k_ ≠ (.slice DD J3.length vD : Value).ownBlock ∧ some k_ ≠ (.slice TE L7.length WE : Value).ownBlock ∧ some k_ ≠ (.slice jO TK.length zO : Value).ownBlock ∧ k_ ≠ H_ ∧ k_ ≠ O8 ∧ k_ ≠ N9) k_ from fun k_ X => ⟨Kd.I7 (Kd.B_ (qN P4.out)) k_ X, Kd.I7 (Kd.B_ (qN T8.out)) k_ X, Kd.I7 (Kd.B_ (qN C9.out)) k_ X, Kd.I7 (Kd.B_ (qN uC.out)) k_ X, Kd.M8 (bq g7.out) k_ X, Kd.M8 (bq l8.out) k_ X, Kd.M8 (bq d_.out) k_ X⟩) _ (Nat.le_refl _)) (Below.refl _ _) (Nat.le_refl _) (by simp) ?_; (case hd => rfl); (case hg => rfl); (case hr => exact Z2); (case hp => exact (J2.one (show Kd.FK (Kd.slice 28 L3) _ _ OQ [.slice pW OQ.length MX] from (Kd.DR (Kd.n_ (Kd.Y5 (ok' := (fun k_ => some k_ ≠ (.slice FC V4.length XB : Value).ownBlock ∧ some k_ ≠ (.slice DD J3.length vD : Value).ownBlock ∧ some k_ ≠ (.slice TE L7.length WE : Value).ownBlock ∧ some k_ ≠ (.slice jO TK.length zO : Value).ownBlock ∧ k_ ≠ H_ ∧ k_ ≠ O8 ∧ k_ ≠ N9)) (Kd.kA (Kd.kA (Kd.kA (Kd.RB (Kd.RB (Kd.RB (Kd.RB (QV.out) (Kd.aE P4.out) (by decide)) (Kd.aE T8.out) (by decide)) (Kd.aE C9.out) (by decide)) (Kd.aE uC.out) (by decide)) g7.out (by decide)) l8.out (by decide)) d_.out (by decide)) (fun k_ X => ⟨X.1.1.1.1.1.1.2, ⟨X.1.1.1.1.1.2, ⟨X.1.1.1.1.2, ⟨X.1.1.1.2, ⟨X.1.1.2, ⟨X.1.2, X.2⟩⟩⟩⟩⟩⟩))).2.1 (Kd.fV (Kd.Y5 (ok' := (fun k_ => some k_ ≠ (.slice FC V4.length XB : Value).ownBlock ∧ some k_ ≠ (.slice DD J3.length vD : Value).ownBlock ∧ some k_ ≠ (.slice TE L7.length WE : Value).ownBlock ∧ some k_ ≠ (.slice jO TK.length zO : Value).ownBlock ∧ k_ ≠ H_ ∧ k_ ≠ O8 ∧ k_ ≠ N9)) (Kd.kA (Kd.kA (Kd.kA (Kd.RB (Kd.RB (Kd.RB (Kd.RB (QV.out) (Kd.aE P4.out) (by decide)) (Kd.aE T8.out) (by decide)) (Kd.aE C9.out) (by decide)) (Kd.aE uC.out) (by decide)) g7.out (by decide)) l8.out (by decide)) d_.out (by decide)) (fun k_ X => ⟨X.1.1.1.1.1.1.2, ⟨X.1.1.1.1.1.2, ⟨X.1.1.1.1.2, ⟨X.1.1.1.2, ⟨X.1.1.2, ⟨X.1.2, X.2⟩⟩⟩⟩⟩⟩))))) (J2.none _ _))); intro ek7 Pf BN G i3 e7; clear i3 e7; (rw [← bu3.out] at BN); replace P4 := am (Kd.o8 (qN P4.out) (Kd.qL BN) G); replace T8 := am (Kd.o8 (qN T8.out) (Kd.qL BN) G); replace C9 := am (Kd.o8 (qN C9.out) (Kd.qL BN) G); replace uC := am (Kd.o8 (qN uC.out) (Kd.qL BN) G); have LH := am (Kd.NF BN (S3 (D2 Z_ ZA dD I.out))); replace g7 := am (O0 (bq g7.out) G); replace l8 := am (O0 (bq l8.out) G); replace d_ := am (O0 (bq d_.out) G); replace I := am (T0 (D2 Z_ ZA dD I.out) G); clear QV; clear G BN; obtain ⟨ac2, ac7, aw5⟩ := Kd.VD LH.out; subst aw5) | ((with_reducible refine H2 (f := 24) rfl ?_); refine G2 (some 63) rfl rfl Try.func24 (by kernel_rfl) rfl #[.agg #[.int .i64 0, .int .i64 96, .slice ac2 VX.length ac7]] rfl F2 ?_; (with_reducible refine (H4.calls k 0 96 _ _ VX TR BT _ ?side1 ?side2 QH.out).mono ?_); (case side1 => repeat (exact (Kd.iA LH.out).2.2)); (case side2 => exact (Kd.iA LH.out).2.1); rintro e w65 ⟨rfl, G⟩; refine ⟨_, rfl, ?_⟩; replace P4 := am (Kd.Y3 (qN P4.out) G); replace T8 := am (Kd.Y3 (qN T8.out) G); replace C9 := am (Kd.Y3 (qN C9.out) G); replace uC := am (Kd.Y3 (qN uC.out) G); replace LH := am (Kd.Y3 (qN LH.out) G); replace g7 := am (O0 (bq g7.out) G); replace l8 := am (O0 (bq l8.out) G); replace d_ := am (O0 (bq d_.out) G); replace I := am (T0 (D2 Z_ ZA dD I.out) G); ) | ((with_reducible refine H2 (f := 21) rfl ?_); refine G2 (some 67) rfl rfl Try.func21 (by kernel_rfl) rfl #[.string (⟨#[77, 84, 104, 120]⟩ : ByteArray)] rfl F2 ?_; (with_reducible refine (I8.calls k (⟨#[77, 84, 104, 120]⟩ : ByteArray) sH rI lJ kS Pq _ Se.out).mono ?_); rintro e w66 ⟨ec4, rfl, T3, G⟩; refine ⟨_, rfl, ?_⟩; have QT := am (Kd.NF (Kd.J6 (ok' := fun k_ => some k_ ≠ (.slice FC V4.length XB : Value).ownBlock ∧ some k_ ≠ (.slice DD J3.length vD : Value).ownBlock ∧ some k_ ≠ (.slice TE L7.length WE : Value).ownBlock ∧ some k_ ≠ (.slice jO TK.length zO : Value).ownBlock ∧ some k_ ≠ (.slice ac2 VX.length ac7 : Value).ownBlock ∧ k_ ≠ H_ ∧ k_ ≠ O8 ∧ k_ ≠ N9) (Kd.tL (Kd.bI T3)) (fun k_ n4 => ⟨(Kd.I7 (Kd.B_ (qN P4.out)) k_ n4.2.1), (Kd.I7 (Kd.B_ (qN T8.out)) k_ n4.2.1), (Kd.I7 (Kd.B_ (qN C9.out)) k_ n4.2.1), (Kd.I7 (Kd.B_ (qN uC.out)) k_ n4.2.1), (Kd.I7 (Kd.B_ (qN LH.out)) k_ n4.2.1), (Kd.M8 (bq g7.out) k_ n4.2.1), (Kd.M8 (bq l8.out) k_ n4.2.1), (Kd.M8 (bq d_.out) k_ n4.2.1)⟩)) (S3 (D2 Z_ ZA dD I.out))); replace P4 := am (Kd.o8 (qN P4.out) PM G); replace T8 := am (Kd.o8 (qN T8.out) PM G); replace C9 := am (Kd.o8 (qN C9.out) PM G); replace uC := am (Kd.o8 (qN uC.out) PM G); replace LH := am (Kd.o8 (qN LH.out) PM G); replace g7 := am (O0 (bq g7.out) G); replace l8 := am (O0 (bq l8.out) G); replace d_ := am (O0 (bq d_.out) G); replace I := am (T0 (D2 Z_ ZA dD I.out) G); ) | ((with_reducible refine P2 (N := 16) rfl ?_); refine D3 ?hg (N := 16) ?hd (cs := #[.int .i64 0, .int .i64 0, .slice none 0 0]) (t := 24) ?hr ?_; (case hd => rfl); (case hg => rfl); (case hr => exact Z2); intro K7 hg Yo M0 G; replace P4 := am (Kd.Y3 (Kd.CG (qN P4.out) K7 (Nat.le_of_eq hg.symm)) G); replace T8 := am (Kd.Y3 (Kd.CG (qN T8.out) K7 (Nat.le_of_eq hg.symm)) G); replace C9 := am (Kd.Y3 (Kd.CG (qN C9.out) K7 (Nat.le_of_eq hg.symm)) G); replace uC := am (Kd.Y3 (Kd.CG (qN uC.out) K7 (Nat.le_of_eq hg.symm)) G); replace LH := am (Kd.Y3 (Kd.CG (qN LH.out) K7 (Nat.le_of_eq hg.symm)) G); replace QT := am (Kd.Y3 (Kd.CG (qN QT.out) K7 (Nat.le_of_eq hg.symm)) G); have Pe := am (M0); have fm4 := am ((by rw [hg]; exact (S3 (D2 Z_ ZA dD I.out)) : w.heap.size ≤ K7)); have ab6 := am ((by rw [hg]; exact (S3 (D2 Z_ ZA dD I.out)) : w.heap.size ≤ K7)); replace I := am (T0 (D2 Z_ ZA dD I.out) G); have eY := am ((by rw [hg]; exact Nat.ne_of_lt (K8 (bq g7.out)) : H_ ≠ K7)); have bw8 := am ((by rw [hg]; exact Nat.ne_of_gt (K8 (bq g7.out)) : K7 ≠ H_)); replace g7 := am (O0 (bq g7.out) G); have sX := am ((by rw [hg]; exact Nat.ne_of_lt (K8 (bq l8.out)) : O8 ≠ K7)); have ck0 := am ((by rw [hg]; exact Nat.ne_of_gt (K8 (bq l8.out)) : K7 ≠ O8)); replace l8 := am (O0 (bq l8.out) G); have fX := am ((by rw [hg]; exact Nat.ne_of_lt (K8 (bq d_.out)) : N9 ≠ K7)); have bd7 := am ((by rw [hg]; exact Nat.ne_of_gt (K8 (bq d_.out)) : K7 ≠ N9)); replace d_ := am (O0 (bq d_.out) G); clear G M0 hg; have ef8 := bw8.out; have fi1 := eY.out; have fs3 := ck0.out; have fk7 := sX.out; have fb3 := bd7.out; have dm2 := fX.out; obtain ⟨dr2, di0, dx1, fh9, dz5, ex8⟩ := V2 Pe.out; obtain ⟨JK, fK, bq4⟩ := Kd.VD QT.out; subst bq4; obtain ⟨dt7, et3, eb8, fr3, ey7, fn8⟩ := V2 g7.out; obtain ⟨Lq, Ux, Xv, Iz, Kp, aa8⟩ := V2 l8.out) | (go_at_call 14; (with_reducible refine (V8.calls k 0 96 _ _ V4 J4 g6 _ _ J3 true _ ?side1 ?side2 ?side3 ?side4 Fe.out).mono ?_); (case side1 => refine (Kd.iA (e := 30) (base := w.heap.size) (ok := ?ok1_) (n := V4.length) (c := XB) ?h1_).2.2; (case h1_ => exact (by (with_reducible repeat (first | apply Kd.eC | apply Kd.gC | apply Kd.eB)); have n6 := (Kd.H6 (p := ⟨K7, 2, none⟩) (Kd.H6 (p := ⟨K7, 1, none⟩) (Kd.H6 (p := ⟨K7, 0, none⟩) (Kd.J6 P4.out (fun k_ X => (⟨X, X.2⟩ : _ ∧ k_ ≠ K7))) (fun _ X => X.2) (.int .i64 sH)) (fun _ X => X.2) (.int .i64 rI)) (fun _ X => X.2) (.slice JK lJ.length fK)); exact n6))); (case side2 => exact (Kd.iA P4.out).2.1); (case side3 => refine (Kd.iA (e := 30) (base := w.heap.size) (ok := ?ok2_) (n := J3.length) (c := vD) ?h2_).2.2; (case h2_ => exact (by (with_reducible repeat (first | apply Kd.eC | apply Kd.gC | apply Kd.eB)); have n6 := (Kd.H6 (p := ⟨K7, 2, none⟩) (Kd.H6 (p := ⟨K7, 1, none⟩) (Kd.H6 (p := ⟨K7, 0, none⟩) (Kd.J6 T8.out (fun k_ X => (⟨X, X.2⟩ : _ ∧ k_ ≠ K7))) (fun _ X => X.2) (.int .i64 sH)) (fun _ X => X.2) (.int .i64 rI)) (fun _ X => X.2) (.slice JK lJ.length fK)); exact n6))); (case side4 => exact (Kd.iA T8.out).2.1); rintro e Pu ⟨rfl, G⟩; replace P4 := am (Kd.Y3 (by (with_reducible repeat (first | apply Kd.eC | apply Kd.gC | apply Kd.eB)); exact (Kd.J6 (Kd.H6 (p := ⟨K7, 2, none⟩) (Kd.H6 (p := ⟨K7, 1, none⟩) (Kd.H6 (p := ⟨K7, 0, none⟩) (Kd.J6 P4.out (fun k_ X => (⟨X, X.2⟩ : _ ∧ k_ ≠ K7))) (fun _ X => X.2) (.int .i64 sH)) (fun _ X => X.2) (.int .i64 rI)) (fun _ X => X.2) (.slice JK lJ.length fK)) (fun _ h_ => h_.1))) G); replace T8 := am (Kd.Y3 (by (with_reducible repeat (first | apply Kd.eC | apply Kd.gC | apply Kd.eB)); exact (Kd.J6 (Kd.H6 (p := ⟨K7, 2, none⟩) (Kd.H6 (p := ⟨K7, 1, none⟩) (Kd.H6 (p := ⟨K7, 0, none⟩) (Kd.J6 T8.out (fun k_ X => (⟨X, X.2⟩ : _ ∧ k_ ≠ K7))) (fun _ X => X.2) (.int .i64 sH)) (fun _ X => X.2) (.int .i64 rI)) (fun _ X => X.2) (.slice JK lJ.length fK)) (fun _ h_ => h_.1))) G); replace C9 := am (Kd.Y3 (by (with_reducible repeat (first | apply Kd.eC | apply Kd.gC | apply Kd.eB)); exact (Kd.J6 (Kd.H6 (p := ⟨K7, 2, none⟩) (Kd.H6 (p := ⟨K7, 1, none⟩) (Kd.H6 (p := ⟨K7, 0, none⟩) (Kd.J6 C9.out (fun k_ X => (⟨X, X.2⟩ : _ ∧ k_ ≠ K7))) (fun _ X => X.2) (.int .i64 sH)) (fun _ X => X.2) (.int .i64 rI)) (fun _ X => X.2) (.slice JK lJ.length fK)) (fun _ h_ => h_.1))) G); replace uC := am (Kd.Y3 (by (with_reducible repeat (first | apply Kd.eC | apply Kd.gC | apply Kd.eB)); exact (Kd.J6 (Kd.H6 (p := ⟨K7, 2, none⟩) (Kd.H6 (p := ⟨K7, 1, none⟩) (Kd.H6 (p := ⟨K7, 0, none⟩) (Kd.J6 uC.out (fun k_ X => (⟨X, X.2⟩ : _ ∧ k_ ≠ K7))) (fun _ X => X.2) (.int .i64 sH)) (fun _ X => X.2) (.int .i64 rI)) (fun _ X => X.2) (.slice JK lJ.length fK)) (fun _ h_ => h_.1))) G); replace LH := am (Kd.Y3 (by (with_reducible repeat (first | apply Kd.eC | apply Kd.gC | apply Kd.eB)); exact (Kd.J6 (Kd.H6 (p := ⟨K7, 2, none⟩) (Kd.H6 (p := ⟨K7, 1, none⟩) (Kd.H6 (p := ⟨K7, 0, none⟩) (Kd.J6 LH.out (fun k_ X => (⟨X, X.2⟩ : _ ∧ k_ ≠ K7))) (fun _ X => X.2) (.int .i64 sH)) (fun _ X => X.2) (.int .i64 rI)) (fun _ X => X.2) (.slice JK lJ.length fK)) (fun _ h_ => h_.1))) G); replace QT := am (Kd.Y3 (by (with_reducible repeat (first | apply Kd.eC | apply Kd.gC | apply Kd.eB)); exact (Kd.J6 (Kd.H6 (p := ⟨K7, 2, none⟩) (Kd.H6 (p := ⟨K7, 1, none⟩) (Kd.H6 (p := ⟨K7, 0, none⟩) (Kd.J6 QT.out (fun k_ X => (⟨X, X.2⟩ : _ ∧ k_ ≠ K7))) (fun _ X => X.2) (.int .i64 sH)) (fun _ X => X.2) (.int .i64 rI)) (fun _ X => X.2) (.slice JK lJ.length fK)) (fun _ h_ => h_.1))) G); replace g7 := am (O0 (g := H_) (o := .cells #[.int .i64 0, .int .i64 96, .slice FC V4.length XB] 24 (0, 0)) (by refine bq ?_; refine P0 ?_ eY.out _; refine bq ?_; refine P0 ?_ eY.out _; refine bq ?_; refine P0 ?_ eY.out _; exact bq g7.out) G); replace l8 := am (O0 (g := O8) (o := .cells #[.int .i64 J4, .int .i64 g6, .slice DD J3.length vD] 24 (0, 0)) (by refine bq ?_; refine P0 ?_ sX.out _; refine bq ?_; refine P0 ?_ sX.out _; refine bq ?_; refine P0 ?_ sX.out _; exact bq l8.out) G); replace d_ := am (O0 (g := N9) (o := .cells #[.int .i64 MD, .int .i64 UE, .slice TE L7.length WE] 24 (0, 0)) (by refine bq ?_; refine P0 ?_ fX.out _; refine bq ?_; refine P0 ?_ fX.out _; refine bq ?_; refine P0 ?_ fX.out _; exact bq d_.out) G); replace Pe := am (O0 (g := K7) (o := .cells #[.int .i64 sH, .int .i64 rI, .slice JK lJ.length fK] 24 (0, 0)) (by refine bq ?_; refine J0 (cs := #[.int .i64 sH, .int .i64 rI, .slice none 0 0]) ?_ 2 _ rfl; refine bq ?_; refine J0 (cs := #[.int .i64 sH, .int .i64 0, .slice none 0 0]) ?_ 1 _ rfl; refine bq ?_; refine J0 (cs := #[.int .i64 0, .int .i64 0, .slice none 0 0]) ?_ 0 _ rfl; exact bq Pe.out) G); replace I := am (T0 (nR Z_ ZA dD ab6 I.out) G); )); go_ret; exact ⟨by rfl, nR Z_ ZA dD ab6 I.out⟩
def l6.f (a0 : Int) (a1 : Int) : Option (Int) := if a0 < 0 then (if a1 = 0 then (none) else (some (Int.tmod (wrap64 (-(wrap64 (a0 + 1)))) a1))) else (if a1 = 0 then (none) else (some (Int.tmod a0 a1)))
set_option maxHeartbeats 8000000 in
set_option maxRecDepth 100000 in
theorem l6.calls (a0 : Int) (a1 : Int) (r : Int) (w : World) (h : l6.f a0 a1 = some r) :
 Calls Try.prog 19 #[.int .i64 a0, .int .i64 a1] w fun e w' => e = .returned (.int .i64 r) ∧ E_ w w' := by
 have H := h; unfold l6.f at H; clear h; by_cases c3 : a0 < 0
 ·rw [if_pos c3] at H; have S8 : decide (a0 < 0) = true := decide_eq_true c3; clear c3; by_cases c4 : a1 = 0
  ·rw [if_pos c4] at H; exact absurd H (by simp)
  rw [if_neg c4] at H; have T7 : (a1 == 0) = false := beq_eq_false_iff_ne.mpr c4; have RE : (a1 != 0) = true := bne_iff_ne.mpr c4; obtain rfl := Option.some.inj H; go_enter Try.func19, Try.ntmps19; go_wp2; go_ret; exact ⟨o6, F5⟩
 rw [if_neg c3] at H; have S8 : decide (a0 < 0) = false := decide_eq_false c3; clear c3; by_cases c5 : a1 = 0
 ·rw [if_pos c5] at H; exact absurd H (by simp)
 rw [if_neg c5] at H; have qC : (a1 == 0) = false := beq_eq_false_iff_ne.mpr c5; have DF : (a1 != 0) = true := bne_iff_ne.mpr c5; obtain rfl := Option.some.inj H; go_enter Try.func19, Try.ntmps19; go_wp2; go_ret; exact ⟨o6, F5⟩
end Go.Proofs.Ytdmnknhlibaaoaa.M
