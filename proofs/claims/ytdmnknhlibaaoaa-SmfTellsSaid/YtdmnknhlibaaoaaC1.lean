/- Functions and contracts printed by a program of this session (wip/tools), and texts by hand: Print, Parse, and the plain answers (part 1). -/
import Derived.Test.YtdmnknhlibaaoaaProg
import Derived.Below
import Derived.Deep.Draws
import Derived.Deep.AppendLies
import Derived.Maps.AppendAt
import Derived.OwnWalk
import Derived.Laws.BytesArg
import Derived.Laws.MakeOwn
import Derived.Laws.OwnMore
import Derived.Deep.OwnRows
import Derived.Tactics
import Derived.Lib.ConvBytes
import Derived.Laws.Slices
import Derived.WalkKit
import Derived.KernelRfl
import Derived.RowKit3
import Derived.Deep.LoopGhost
import Derived.Deep.QuietTactic
import Derived.BigQuiet
import Derived.WideLaws
import Derived.Deep.DeepCutAuto
import Derived.Deep.CutBlock
import Derived.Deep.RegionHeld3
import Derived.Laws.Rows
import Derived.Lib.AppendStr
import Derived.ArgAppend
import Derived.Laws.IdiomCopy
import Derived.OrdersHeld
import Derived.Laws.BitsLemmas
import Derived.RowKit
import Derived.Tactics2
import Derived.WalkSpells
import Derived.StillTactics
import Derived.OneCell
import Derived.Outline
import Derived.Deep.RegionLaw
import Derived.IntWalk
import Derived.Lib.Hide
import Derived.Lib.SlBytesConst
import Derived.Test.YtdmnknhlibaaoaaCW
import Derived.Test.YtdmnknhlibaaoaaC0
namespace Go.Proofs.Ytdmnknhlibaaoaa.M
open Go.RowKit Go.Proofs.YtdmnknhlibaaoaaW.PrintWords Go.Proofs.YtdmnknhlibaaoaaW.PrintLast Go.Proofs.YtdmnknhlibaaoaaW.PrintMore
attribute [local go_sem] cH bH eH jH fH nH qH oH
set_option linter.unusedVariables false
set_option linter.unusedSimpArgs false
def at7 : Option Int → Value
 | none => .nilIface
 | some c => .iface 0 (.int .i64 c)
theorem bN : at7 none = .nilIface := rfl
theorem QM (c : Int) : at7 (some c) = .iface 0 (.int .i64 c) := rfl
theorem OA : (Try.prog.info? 5).map (fun i => (i.zero, i.size, i.bytes)) = some (some (.int .u8 0), 1, 1) := by kernel_rfl
theorem rV : (Try.prog.info? 28).map (fun i => (i.zero, i.size, i.bytes)) = some (some (.agg #[(.int .i64 0), (.int .i64 0), (.int .i64 0), (.int .i64 0), (.int .i64 0), (.string ⟨#[]⟩)]), 6, 56) := by kernel_rfl
theorem zV : (Try.prog.info? 30).map (fun i => (i.zero, i.size, i.bytes)) = some (some (.slice none 0 0), 1, 24) := by kernel_rfl
structure N0 where
 f0 : Int
 f1 : Int
 f2 : Int
 f3 : Int
 f4 : Int
 f5 : ByteArray
def z28 : N0 := ⟨(0 : Int), (0 : Int), (0 : Int), (0 : Int), (0 : Int), (⟨#[]⟩ : ByteArray)⟩
def L3 : Kd N0 := Kd.iso (Kd.pair (Kd.int .i64) (Kd.pair (Kd.int .i64) (Kd.pair (Kd.int .i64) (Kd.pair (Kd.int .i64) (Kd.pair (Kd.int .i64) Kd.string))))) (fun x : N0 => (x.f0, x.f1, x.f2, x.f3, x.f4, x.f5))
theorem cx2 {w : World} {x : N0} {cs : List Value} (h : L3.K w x cs) : cs = [.int .i64 x.f0, .int .i64 x.f1, .int .i64 x.f2, .int .i64 x.f3, .int .i64 x.f4, .string x.f5] := by
 obtain ⟨_, _, rfl, rfl, ⟨_, _, rfl, rfl, ⟨_, _, rfl, rfl, ⟨_, _, rfl, rfl, ⟨_, _, rfl, rfl, rfl⟩⟩⟩⟩⟩ := h
 exact rfl
theorem cy3 (w : World) (x : N0)  : L3.K w x [.int .i64 x.f0, .int .i64 x.f1, .int .i64 x.f2, .int .i64 x.f3, .int .i64 x.f4, .string x.f5] := ⟨[.int .i64 x.f0], [.int .i64 x.f1, .int .i64 x.f2, .int .i64 x.f3, .int .i64 x.f4, .string x.f5], rfl, rfl, ⟨[.int .i64 x.f1], [.int .i64 x.f2, .int .i64 x.f3, .int .i64 x.f4, .string x.f5], rfl, rfl, ⟨[.int .i64 x.f2], [.int .i64 x.f3, .int .i64 x.f4, .string x.f5], rfl, rfl, ⟨[.int .i64 x.f3], [.int .i64 x.f4, .string x.f5], rfl, rfl, ⟨[.int .i64 x.f4], [.string x.f5], rfl, rfl, rfl⟩⟩⟩⟩⟩
theorem QJ (w : World) (base : Nat) (ok : Nat → Prop) (x : N0)  : L3.M w base ok x [.int .i64 x.f0, .int .i64 x.f1, .int .i64 x.f2, .int .i64 x.f3, .int .i64 x.f4, .string x.f5] := ⟨[.int .i64 x.f0], [.int .i64 x.f1, .int .i64 x.f2, .int .i64 x.f3, .int .i64 x.f4, .string x.f5], rfl, rfl, ⟨[.int .i64 x.f1], [.int .i64 x.f2, .int .i64 x.f3, .int .i64 x.f4, .string x.f5], rfl, rfl, ⟨[.int .i64 x.f2], [.int .i64 x.f3, .int .i64 x.f4, .string x.f5], rfl, rfl, ⟨[.int .i64 x.f3], [.int .i64 x.f4, .string x.f5], rfl, rfl, ⟨[.int .i64 x.f4], [.string x.f5], rfl, rfl, rfl⟩⟩⟩⟩⟩
def U (xs : List N0) (i : Int) : N0 := xs.getD i.toNat z28
theorem jA {w : World} {A : Option Addr} {n : Nat} {xs : List N0} (h : Kd.C L3 w A n xs) (i : Int) (h0 : 0 ≤ i) (h1 : i < n) : ∃ ad , A = some ad ∧ w.cell? (ad.add (i.toNat * 6)) = some (.int .i64 (U xs i).f0) ∧ w.cell? ⟨(ad.add (i.toNat * 6)).block, (ad.add (i.toNat * 6)).off + 1, none⟩ = some (.int .i64 (U xs i).f1) ∧ w.cell? ⟨(ad.add (i.toNat * 6)).block, (ad.add (i.toNat * 6)).off + 2, none⟩ = some (.int .i64 (U xs i).f2) ∧ w.cell? ⟨(ad.add (i.toNat * 6)).block, (ad.add (i.toNat * 6)).off + 3, none⟩ = some (.int .i64 (U xs i).f3) ∧ w.cell? ⟨(ad.add (i.toNat * 6)).block, (ad.add (i.toNat * 6)).off + 4, none⟩ = some (.int .i64 (U xs i).f4) ∧ w.cell? ⟨(ad.add (i.toNat * 6)).block, (ad.add (i.toNat * 6)).off + 5, none⟩ = some (.string (U xs i).f5) := by
 obtain ⟨ad, c, e, _, hK, i_⟩ := Kd.ak8 h z28 i h0 h1
 have hc : ∀ j u, c[j]? = some u → w.cell? (ad.add (i.toNat * 6 + j)) = some u := i_
 obtain rfl := cx2 hK
 exact ⟨ad, e, hc 0 _ rfl, by rw [← pV _ _ 1 (by omega)]; exact hc 1 _ rfl, by rw [← pV _ _ 2 (by omega)]; exact hc 2 _ rfl, by rw [← pV _ _ 3 (by omega)]; exact hc 3 _ rfl, by rw [← pV _ _ 4 (by omega)]; exact hc 4 _ rfl, by rw [← pV _ _ 5 (by omega)]; exact hc 5 _ rfl⟩
def L0 (xs : List (List N0)) (i : Int) : (List N0) := xs.getD i.toNat ([] : List N0)
theorem R9 {w : World} {A : Option Addr} {n : Nat} {xs : List (List N0)} (h : Kd.C (Kd.slice 28 L3) w A n xs) (i : Int) (h0 : 0 ≤ i) (h1 : i < n) : ∃ ad A0 c0, A = some ad ∧ w.cell? (ad.add i.toNat) = some (.slice A0 (L0 xs i).length c0) ∧ (L0 xs i).length ≤ c0 ∧ L3.C w A0 (L0 xs i).length (L0 xs i) := by
 obtain ⟨ad, c, e, _, hK, i_⟩ := Kd.ak8 h ([] : List N0) i h0 h1
 have hc : ∀ j u, c[j]? = some u → w.cell? (ad.add (i.toNat * 1 + j)) = some u := i_
 obtain ⟨A0, c0, rfl, l0, g0⟩ := hK
 exact ⟨ad, A0, c0, e, by have hq := hc 0 _ rfl; rwa [Nat.mul_one, Nat.add_zero] at hq, l0, g0⟩
theorem BR {P : Program} {ops : Array Oper} {Q : Exit → Act → World → Prop} {rest : List Oper} {oi : Oper} {a : Act} {w : World} (N : Option Tmp) (hd : oi.dst = N) (hg : oi.guard = none) {f : FuncId} {fn : Func} {t : Tmp} {Wq : Array Operand} {ts : Array TypeId} (hf : P.funcs[f]? = some fn) (nO : (fn.name == "runtime.NumGoroutine") = false) (G : fn.body.isSome = true) (args : Array Value)
 (OT : oi.op = .call { callee := .value (.tmp t), args := Wq, argTypes := ts }) (TP : Wq.map a.eval = args)
 (h : Calls P f args w fun e w' => ∃ v, e = .returned v ∧ wpList P ops Q rest (a.put N v) w') (cj6 : a.eval (.tmp t) = .func (.func f) #[] #[] := by rfl) : wpList P ops Q (oi :: rest) a w := by
 refine wpList_plain hg fun K hK => ?_
 have he := Im hf nO G args w
 have VA : (execOp a.eval oi).run P w = .ok (.enter f args) w := by
  unfold execOp
  simp [OT, cj6, resolve, Deferred.ofValue, invoke, TP, he]
 unfold Oper.wp
 rw [VA, Oper.upon_enter]
 refine h.mono fun e OP hh => ?_
 obtain ⟨v, rfl, X⟩ := hh
 subst hd
 exact hK _ _ X
end Go.Proofs.Ytdmnknhlibaaoaa.M
namespace Go.Proofs.Ytdmnknhlibaaoaa.M
open Go.RowKit Go.Proofs.YtdmnknhlibaaoaaW.PrintWords Go.Proofs.YtdmnknhlibaaoaaW.PrintLast Go.Proofs.YtdmnknhlibaaoaaW.PrintMore
attribute [local go_sem] cH bH eH jH fH nH qH oH
set_option linter.unusedVariables false
set_option linter.unusedSimpArgs false
theorem as8 (d : Nat) (w : World) (x0 y0 : Int) (x1 y1 : Int) (x2 y2 : Int) (x3 y3 : Int) (x4 y4 : Int) (x5 y5 : ByteArray) :
 (Op.equalIn (d + 2) 28 (.agg #[.int .i64 x0, .int .i64 x1, .int .i64 x2, .int .i64 x3, .int .i64 x4, .string x5]) (.agg #[.int .i64 y0, .int .i64 y1, .int .i64 y2, .int .i64 y3, .int .i64 y4, .string y5])).run Try.prog w = .ok (x0 == y0 && (x1 == y1 && (x2 == y2 && (x3 == y3 && (x4 == y4 && (x5.toList == y5.toList)))))) w := by
 refine cm8 Try.underlying28 (by kernel_rfl) ?_
 refine sV (by rfl) TH TH (by go_simp) ?_
 refine sV (by rfl) TH TH (by go_simp) ?_
 refine sV (by rfl) TH TH (by go_simp) ?_
 refine sV (by rfl) TH TH (by go_simp) ?_
 refine sV (by rfl) TH TH (by go_simp) ?_
 exact da2 (by rfl) TH TH (by go_simp)
end Go.Proofs.Ytdmnknhlibaaoaa.M
namespace Go.Proofs.Ytdmnknhlibaaoaa.M
open Go.RowKit Go.Proofs.YtdmnknhlibaaoaaW.PrintWords Go.Proofs.YtdmnknhlibaaoaaW.PrintLast Go.Proofs.YtdmnknhlibaaoaaW.PrintMore
attribute [local go_sem] cH bH eH jH fH nH qH oH
set_option linter.unusedVariables false
set_option linter.unusedSimpArgs false
attribute [local go_sem high] as8
def N_.l0 : Nat → List (N0) → List (N0) → Int → Int → Option (Bool)
 | 0, _, _, _, _ => none
 | k + 1, x0, x1, Ss, jE => if jE < Ss then (if 0 ≤ jE then (if jE < (x0.length : Int) then (if jE < (x1.length : Int) then (if (!(((U x0 jE).f0) == ((U x1 jE).f0)) || (!(((U x0 jE).f1) == ((U x1 jE).f1)) || (!(((U x0 jE).f2) == ((U x1 jE).f2)) || (!(((U x0 jE).f3) == ((U x1 jE).f3)) || (!(((U x0 jE).f4) == ((U x1 jE).f4)) || (!((((U x0 jE).f5).toList) == (((U x1 jE).f5).toList)))))))) = true then (some false) else (N_.l0 k x0 x1 Ss (wrap64 (jE + 1)))) else (none)) else (none)) else (none)) else (some true)
def N_.f (k : Nat) (l0 : List (N0)) (l1 : List (N0)) : Option (Bool) := if (l0.length : Int) = (l1.length : Int) then (N_.l0 k l0 l1 (l0.length : Int) 0) else (some false)
theorem N_.mono_l : ∀ k, (∀ y0 y1 y2 y3, F0 (N_.l0 k y0 y1 y2 y3) (N_.l0 (k + 1) y0 y1 y2 y3))
 | 0 => fun _ _ _ _ r h => by simp [N_.l0] at h
 | k + 1 => by
  have O2 := N_.mono_l k
  ·intro y0 y1 y2 y3
   unfold N_.l0
   repeat' first
   | (with_reducible exact O2 _ _ _ _)
   | (with_reducible exact F0.refl _)
   | (with_reducible exact F0.none _)
   | (with_reducible refine F0.ite ?_ ?_)
   | (with_reducible refine F0.bind ?_ (fun _ => ?_))
   | exact O2 _ _ _ _
   | exact F0.none _
   | refine F0.ite ?_ ?_
   | refine F0.bind ?_ (fun _ => ?_)
theorem N_.mono : ∀ a0 a1 k, F0 (N_.f k a0 a1) (N_.f (k + 1) a0 a1) := by
 intro a0 a1 k
 have O2 := N_.mono_l k
 unfold N_.f
 repeat' first
  | (with_reducible exact O2 _ _ _ _)
  | (with_reducible exact F0.refl _)
  | (with_reducible exact F0.none _)
  | (with_reducible refine F0.ite ?_ ?_)
  | (with_reducible refine F0.bind ?_ (fun _ => ?_))
  | exact O2 _ _ _ _
  | exact F0.none _
  | refine F0.ite ?_ ?_
  | refine F0.bind ?_ (fun _ => ?_)
set_option maxHeartbeats 8000000 in
set_option maxRecDepth 100000 in
theorem N_.calls (k : Nat) (A0 : Option Addr) (c0 : Nat) (l0 : List (N0)) (A1 : Option Addr) (c1 : Nat) (l1 : List (N0)) (r : Bool) (w : World) (oB : Kd.C L3 w A0 l0.length l0) (i_ : l0.length ≤ c0) (HJ : Kd.C L3 w A1 l1.length l1) (uI : l1.length ≤ c1) (h : N_.f k l0 l1 = some r) :
 Calls Try.prog 27 #[.slice A0 l0.length c0, .slice A1 l1.length c1] w fun e w' => e = .returned (.bool r) ∧ E_ w w' := by
 have WB := Try.underlying28; have J_ := am oB; have FJ := am i_; clear oB i_; have MS := am HJ; have Oe := am uI; clear HJ uI; have H := h; unfold N_.f at H; clear h; by_cases c3 : (l0.length : Int) = (l1.length : Int); rotate_left
 ·rw [if_neg c3] at H; have S8 : ((l0.length : Int) == (l1.length : Int)) = false := beq_eq_false_iff_ne.mpr c3; have qD : ((l0.length : Int) != (l1.length : Int)) = true := bne_iff_ne.mpr c3; have mU : (l0.length == l1.length) = false := by first | simpa using c3 | (simp at c3 ⊢; omega)
  obtain rfl := Option.some.inj H; go_enter Try.func27, Try.ntmps27; go_wp2; repeat (go_quiet (fail); try go_wp2)
  go_ret; exact ⟨o6, F5⟩
 rw [if_pos c3] at H; have S8 : ((l0.length : Int) == (l1.length : Int)) = true := beq_iff_eq.mpr c3; have qD : ((l0.length : Int) != (l1.length : Int)) = false := bne_eq_false_iff_eq.mpr c3; have mU : (l0.length == l1.length) = true := by first | simpa using c3 | (simp at c3 ⊢; omega)
 clear c3; have H' := am H; clear H; go_enter Try.func27, Try.ntmps27; go_wp2; repeat (go_quiet (fail); try go_wp2)
 go_loopg [13] k (fun kq v13 w' => ∃ (U5 : Int), v13 = .int .i64 U5 ∧ Aside0 (N_.l0 kq l0 l1 (l0.length : Int) U5 = some r) ∧ Aside0 (kq ≤ k) ∧ E_ w w')
 case atStart => exact ⟨(0), o6, H', ⟨Nat.le_refl _⟩, F5⟩
 case round =>
  clear H'; try clear c1
  try clear c2
  try clear p2
  try clear c3
  try clear S8
  try clear qD
  try clear mU
  obtain ⟨U5, rfl, HA, S4, ⟨m1, rfl⟩⟩ := hrel; cases gk with
  | zero => exact absurd HA.out (by simp [N_.l0])
  | succ k1 =>
   have H := HA.out; clear HA; simp only [N_.l0] at H; by_cases c4 : U5 < (l0.length : Int); rotate_left
   ·rw [if_neg c4] at H; have T7 : decide (U5 < (l0.length : Int)) = false := decide_eq_false c4; clear c4; obtain rfl := Option.some.inj H; go_wp2; repeat (go_quiet (fail); try go_wp2)
    go_ret; exact ⟨o6, F5⟩
   rw [if_pos c4] at H; have T7 : decide (U5 < (l0.length : Int)) = true := decide_eq_true c4; clear c4; by_cases c5 : 0 ≤ U5; rotate_left
   ·rw [if_neg c5] at H; exact absurd H (by simp)
   rw [if_pos c5] at H; have qC : decide (0 ≤ U5) = true := decide_eq_true c5; clear c5; by_cases c6 : U5 < (l0.length : Int); rotate_left
   ·rw [if_neg c6] at H; exact absurd H (by simp)
   rw [if_pos c6] at H; have cC : decide (U5 < (l0.length : Int)) = true := decide_eq_true c6; clear c6; by_cases c7 : U5 < (l1.length : Int); rotate_left
   ·rw [if_neg c7] at H; exact absurd H (by simp)
   rw [if_pos c7] at H; have lC : decide (U5 < (l1.length : Int)) = true := decide_eq_true c7; clear c7; by_cases c8 : (!(((U l0 U5).f0) == ((U l1 U5).f0)) || (!(((U l0 U5).f1) == ((U l1 U5).f1)) || (!(((U l0 U5).f2) == ((U l1 U5).f2)) || (!(((U l0 U5).f3) == ((U l1 U5).f3)) || (!(((U l0 U5).f4) == ((U l1 U5).f4)) || (!((((U l0 U5).f5).toList) == (((U l1 U5).f5).toList)))))))) = true
   ·rw [if_pos c8] at H; have JG : (!(((U l0 U5).f0) == ((U l1 U5).f0)) || (!(((U l0 U5).f1) == ((U l1 U5).f1)) || (!(((U l0 U5).f2) == ((U l1 U5).f2)) || (!(((U l0 U5).f3) == ((U l1 U5).f3)) || (!(((U l0 U5).f4) == ((U l1 U5).f4)) || (!((((U l0 U5).f5).toList) == (((U l1 U5).f5).toList)))))))) = true := c8; clear c8; obtain rfl := Option.some.inj H; have N4 : 0 ≤ (U5 : Int) := of_decide_eq_true p7; have M4 : U5 < (l0.length : Int) := of_decide_eq_true p7; obtain ⟨P6, H9, F7, S7, Q7, P7, R7, U7⟩ := jA J_.out U5 N4 M4; cases H9; replace N4 := eq_true N4; replace M4 := eq_true M4; have B8 : 0 ≤ (U5 : Int) := of_decide_eq_true p7; have H8 : U5 < (l1.length : Int) := of_decide_eq_true p7; obtain ⟨tG, SC, DA, bi5, bo3, bw7, bk1, ch4⟩ := jA MS.out U5 B8 H8; cases SC; replace B8 := eq_true B8; replace H8 := eq_true H8; go_wp2; repeat (go_quiet (fail); try go_wp2)
    go_ret; exact ⟨o6, F5⟩
   rw [if_neg c8] at H; have JG : (!(((U l0 U5).f0) == ((U l1 U5).f0)) || (!(((U l0 U5).f1) == ((U l1 U5).f1)) || (!(((U l0 U5).f2) == ((U l1 U5).f2)) || (!(((U l0 U5).f3) == ((U l1 U5).f3)) || (!(((U l0 U5).f4) == ((U l1 U5).f4)) || (!((((U l0 U5).f5).toList) == (((U l1 U5).f5).toList)))))))) = false := by simpa using c8
   clear c8; have H' := am H; clear H; have N4 : 0 ≤ (U5 : Int) := of_decide_eq_true p7; have M4 : U5 < (l0.length : Int) := of_decide_eq_true p7; obtain ⟨P6, H9, F7, S7, Q7, P7, R7, U7⟩ := jA J_.out U5 N4 M4; cases H9; replace N4 := eq_true N4; replace M4 := eq_true M4; have B8 : 0 ≤ (U5 : Int) := of_decide_eq_true p7; have H8 : U5 < (l1.length : Int) := of_decide_eq_true p7; obtain ⟨tG, SC, DA, bi5, bo3, bw7, bk1, ch4⟩ := jA MS.out U5 B8 H8; cases SC; replace B8 := eq_true B8; replace H8 := eq_true H8; go_wp2; repeat (go_quiet (fail); try go_wp2)
   go_roundg k1
   case measure => have := S4.out; omega
   case rel => exact ⟨(wrap64 (U5 + 1)), o6, H', ⟨C_⟩, F5⟩
end Go.Proofs.Ytdmnknhlibaaoaa.M
namespace Go.Proofs.Ytdmnknhlibaaoaa.M
open Go.RowKit Go.Proofs.YtdmnknhlibaaoaaW.PrintWords Go.Proofs.YtdmnknhlibaaoaaW.PrintLast Go.Proofs.YtdmnknhlibaaoaaW.PrintMore
attribute [local go_sem] cH bH eH jH fH nH qH oH
set_option linter.unusedVariables false
set_option linter.unusedSimpArgs false
def AA.l0 : Nat → List (List (N0)) → List (List (N0)) → Int → Int → Option (Bool)
 | 0, _, _, _, _ => none
 | k + 1, x1, Gf, Jo, dJ => if dJ < Jo then (if 0 ≤ dJ then (if dJ < (Gf.length : Int) then (if dJ < (x1.length : Int) then ((N_.f k (L0 Gf dJ) (L0 x1 dJ)).bind fun t103 => (if t103 = true then (AA.l0 k x1 Gf Jo (wrap64 (dJ + 1))) else (some false))) else (none)) else (none)) else (none)) else (some true)
def AA.f (k : Nat) (l0 : List (List (N0))) (l1 : List (List (N0))) : Option (Bool) := if (l0.length : Int) = (l1.length : Int) then (AA.l0 k l1 l0 (l0.length : Int) 0) else (some false)
theorem AA.mono_l : ∀ k, (∀ y0 y1 y2 y3, F0 (AA.l0 k y0 y1 y2 y3) (AA.l0 (k + 1) y0 y1 y2 y3))
 | 0 => fun _ _ _ _ r h => by simp [AA.l0] at h
 | k + 1 => by
  have O2 := AA.mono_l k
  ·intro y0 y1 y2 y3
   unfold AA.l0
   repeat' first
   | (with_reducible exact O2 _ _ _ _)
   | (with_reducible exact N_.mono _ _ _)
   | (with_reducible exact F0.refl _)
   | (with_reducible exact F0.none _)
   | (with_reducible refine F0.ite ?_ ?_)
   | (with_reducible refine F0.bind ?_ (fun _ => ?_))
   | exact O2 _ _ _ _
   | exact N_.mono _ _ _
   | exact F0.none _
   | refine F0.ite ?_ ?_
   | refine F0.bind ?_ (fun _ => ?_)
theorem AA.mono : ∀ a0 a1 k, F0 (AA.f k a0 a1) (AA.f (k + 1) a0 a1) := by
 intro a0 a1 k
 have O2 := AA.mono_l k
 unfold AA.f
 repeat' first
  | (with_reducible exact O2 _ _ _ _)
  | (with_reducible exact N_.mono _ _ _)
  | (with_reducible exact F0.refl _)
  | (with_reducible exact F0.none _)
  | (with_reducible refine F0.ite ?_ ?_)
  | (with_reducible refine F0.bind ?_ (fun _ => ?_))
  | exact O2 _ _ _ _
  | exact N_.mono _ _ _
  | exact F0.none _
  | refine F0.ite ?_ ?_
  | refine F0.bind ?_ (fun _ => ?_)
set_option maxHeartbeats 8000000 in
set_option maxRecDepth 100000 in
theorem AA.calls (k : Nat) (A0 : Option Addr) (c0 : Nat) (l0 : List (List (N0))) (A1 : Option Addr) (c1 : Nat) (l1 : List (List (N0))) (r : Bool) (w : World) (oB : Kd.C (Kd.slice 28 L3) w A0 l0.length l0) (i_ : l0.length ≤ c0) (HJ : Kd.C (Kd.slice 28 L3) w A1 l1.length l1) (uI : l1.length ≤ c1) (h : AA.f k l0 l1 = some r) :
 Calls Try.prog 26 #[.slice A0 l0.length c0, .slice A1 l1.length c1, .func (.func 27) #[] #[]] w fun e w' => e = .returned (.bool r) ∧ E_ w w' := by
 have J_ := am oB; have FJ := am i_; clear oB i_; have MS := am HJ; have Oe := am uI; clear HJ uI; have H := h; unfold AA.f at H; clear h; by_cases c3 : (l0.length : Int) = (l1.length : Int); rotate_left
 ·rw [if_neg c3] at H; have S8 : ((l0.length : Int) == (l1.length : Int)) = false := beq_eq_false_iff_ne.mpr c3; have qD : ((l0.length : Int) != (l1.length : Int)) = true := bne_iff_ne.mpr c3; have mU : (l0.length == l1.length) = false := by first | simpa using c3 | (simp at c3 ⊢; omega)
  obtain rfl := Option.some.inj H; go_enter Try.func26, Try.ntmps26; go_wp2; go_ret; exact ⟨o6, F5⟩
 rw [if_pos c3] at H; have S8 : ((l0.length : Int) == (l1.length : Int)) = true := beq_iff_eq.mpr c3; have qD : ((l0.length : Int) != (l1.length : Int)) = false := bne_eq_false_iff_eq.mpr c3; have mU : (l0.length == l1.length) = true := by first | simpa using c3 | (simp at c3 ⊢; omega)
 clear c3; have H' := am H; clear H; go_enter Try.func26, Try.ntmps26; go_wp2; go_loopg [17] k (fun kq cT w' => ∃ (m_ : Int), cT = .int .i64 m_ ∧ Aside0 (AA.l0 kq l1 l0 (l0.length : Int) m_ = some r) ∧ Aside0 (kq ≤ k) ∧ E_ w w')
 case atStart => exact ⟨(0), o6, H', ⟨Nat.le_refl _⟩, F5⟩
 case round =>
  clear H'; try clear c1
  try clear c2
  try clear p2
  try clear c3
  try clear S8
  try clear qD
  try clear mU
  obtain ⟨m_, rfl, HA, S4, ⟨m1, rfl⟩⟩ := hrel; cases gk with
  | zero => exact absurd HA.out (by simp [AA.l0])
  | succ k1 =>
   have H := HA.out; clear HA; simp only [AA.l0] at H; by_cases c4 : m_ < (l0.length : Int); rotate_left
   ·rw [if_neg c4] at H; have T7 : decide (m_ < (l0.length : Int)) = false := decide_eq_false c4; clear c4; obtain rfl := Option.some.inj H; go_wp2; go_ret; exact ⟨o6, F5⟩
   rw [if_pos c4] at H; have T7 : decide (m_ < (l0.length : Int)) = true := decide_eq_true c4; clear c4; by_cases c5 : 0 ≤ m_; rotate_left
   ·rw [if_neg c5] at H; exact absurd H (by simp)
   rw [if_pos c5] at H; have qC : decide (0 ≤ m_) = true := decide_eq_true c5; clear c5; by_cases c6 : m_ < (l0.length : Int); rotate_left
   ·rw [if_neg c6] at H; exact absurd H (by simp)
   rw [if_pos c6] at H; have cC : decide (m_ < (l0.length : Int)) = true := decide_eq_true c6; clear c6; by_cases c7 : m_ < (l1.length : Int); rotate_left
   ·rw [if_neg c7] at H; exact absurd H (by simp)
   rw [if_pos c7] at H; have lC : decide (m_ < (l1.length : Int)) = true := decide_eq_true c7; clear c7; replace H := L2 H; obtain ⟨t103, VF, H⟩ := H; try dsimp -simprocs only at H
   have A8 := am VF; clear VF; by_cases c9 : t103 = true; rotate_left
   ·replace c9 := Bool.eq_false_iff.mpr c9; subst c9; have H1 : (some false) = some r := by rw [if_neg (show ¬ (false = true) by decide)] at H; exact H
    clear H; have H := H1; clear H1; obtain rfl := Option.some.inj H; have N4 : 0 ≤ (m_ : Int) := of_decide_eq_true p7; have M4 : m_ < (l0.length : Int) := of_decide_eq_true p7; obtain ⟨P6, Eh, Ya, H9, F7, wT, dT⟩ := R9 J_.out m_ N4 M4; cases H9; have Ak := am dT; have Ea := am wT; clear dT wT; replace N4 := eq_true N4; replace M4 := eq_true M4; have B8 : 0 ≤ (m_ : Int) := of_decide_eq_true p7; have H8 : m_ < (l1.length : Int) := of_decide_eq_true p7; obtain ⟨tG, iE, tE, SC, DA, jB, kB⟩ := R9 MS.out m_ B8 H8; cases SC; have kI := am kB; have zF := am jB; clear kB jB; replace B8 := eq_true B8; replace H8 := eq_true H8; go_wp2_with ((refine BR (some 29) rfl rfl Try.func27 (by kernel_rfl) rfl #[.slice Eh (L0 l0 m_).length Ya, .slice iE (L0 l1 m_).length tE] rfl L9 ?_; (with_reducible refine (N_.calls k1 _ _ (L0 l0 m_) _ _ (L0 l1 m_) false _ ?side1 ?side2 ?side3 ?side4 A8.out).mono ?_); (case side1 => repeat (first | exact Ak.out | (with_reducible refine Kd.LA ?_ _) | (with_reducible refine Kd.MA ?_ _) | (with_reducible refine Kd.KA ?_))); (case side2 => exact Ea.out); (case side3 => repeat (first | exact kI.out | (with_reducible refine Kd.LA ?_ _) | (with_reducible refine Kd.MA ?_ _) | (with_reducible refine Kd.KA ?_))); (case side4 => exact zF.out); rintro e w' ⟨rfl, ⟨nd, rfl⟩⟩; refine ⟨_, rfl, ?_⟩)); go_ret; exact ⟨o6, F5⟩
   subst c9; have H1 : (AA.l0 k1 l1 l0 (l0.length : Int) (wrap64 (m_ + 1))) = some r := by rw [if_pos rfl] at H; exact H
   clear H; have H := H1; clear H1; have H' := am H; clear H; have N4 : 0 ≤ (m_ : Int) := of_decide_eq_true p7; have M4 : m_ < (l0.length : Int) := of_decide_eq_true p7; obtain ⟨P6, Eh, Ya, H9, F7, wT, dT⟩ := R9 J_.out m_ N4 M4; cases H9; have Ak := am dT; have Ea := am wT; clear dT wT; replace N4 := eq_true N4; replace M4 := eq_true M4; have B8 : 0 ≤ (m_ : Int) := of_decide_eq_true p7; have H8 : m_ < (l1.length : Int) := of_decide_eq_true p7; obtain ⟨tG, iE, tE, SC, DA, jB, kB⟩ := R9 MS.out m_ B8 H8; cases SC; have kI := am kB; have zF := am jB; clear kB jB; replace B8 := eq_true B8; replace H8 := eq_true H8; go_wp2_with ((refine BR (some 29) rfl rfl Try.func27 (by kernel_rfl) rfl #[.slice Eh (L0 l0 m_).length Ya, .slice iE (L0 l1 m_).length tE] rfl L9 ?_; (with_reducible refine (N_.calls k1 _ _ (L0 l0 m_) _ _ (L0 l1 m_) true _ ?side1 ?side2 ?side3 ?side4 A8.out).mono ?_); (case side1 => repeat (first | exact Ak.out | (with_reducible refine Kd.LA ?_ _) | (with_reducible refine Kd.MA ?_ _) | (with_reducible refine Kd.KA ?_))); (case side2 => exact Ea.out); (case side3 => repeat (first | exact kI.out | (with_reducible refine Kd.LA ?_ _) | (with_reducible refine Kd.MA ?_ _) | (with_reducible refine Kd.KA ?_))); (case side4 => exact zF.out); rintro e w' ⟨rfl, ⟨nd, rfl⟩⟩; refine ⟨_, rfl, ?_⟩)); go_roundg k1
   case measure => have := S4.out; omega
   case rel => exact ⟨(wrap64 (m_ + 1)), o6, H', ⟨C_⟩, F5⟩
end Go.Proofs.Ytdmnknhlibaaoaa.M
namespace Go.Proofs.Ytdmnknhlibaaoaa.M
open Go.RowKit Go.Proofs.YtdmnknhlibaaoaaW.PrintWords Go.Proofs.YtdmnknhlibaaoaaW.PrintLast Go.Proofs.YtdmnknhlibaaoaaW.PrintMore
class UD (w : outParam World) (w' : World) : Prop where
 keep : ∀ (k : Nat), k < w.heap.size → w'.heap[k]? = w.heap[k]?
 below : ∀ (w0 : World), Below w0.heap.size w0 w → Below w0.heap.size w0 w'
instance (priority := low) UD.refl (w : World) : UD w w := ⟨fun _ _ => rfl, fun _ h => h⟩
theorem UD.size {w w' : World} (h : UD w w') : w.heap.size ≤ w'.heap.size := by
 have h1 := h.below w (Below.refl _ _)
 exact h1.size
instance UD.alloc (w w' : World) (o : Obj) [h : UD w w'] : UD w (w'.alloc o) := ⟨fun k X => by
 have h1 := h.keep k X
 have h2 := h.size
 rw [← h1]
 exact Below.heap_alloc _ _ _ (by omega), fun w0 G => I6 (h.below w0 G) _⟩
instance UD.drew (w w' : World) [h : UD w w'] : UD w w'.drew := ⟨fun k X => h.keep k X, fun w0 G => G6 (h.below w0 G)⟩
instance UD.drewN (w w' : World) (n : Nat) [h : UD w w'] : UD w (w'.drewN n) := ⟨fun k X => by
 have l4 : k < w.heap.size := X
 have h1 := h.keep k X
 have h2 : w.heap[k]? = some w.heap[k] := Array.getElem?_eq_getElem l4
 rw [h2] at h1 ⊢
 exact V1 h1 n, fun w0 G => by apply q5; exact h.below w0 G⟩
theorem bq {w w' : World} {g : Nat} {o : Obj} (h : w.heap[g]? = some o) [st : UD w w'] : w'.heap[g]? = some o := (st.keep g (Array.getElem?_eq_some_iff.1 h).1).trans h
theorem qB {w w0 w' : World} (h : Below w0.heap.size w0 w) [st : UD w w'] : Below w0.heap.size w0 w' := st.below w0 h
section
variable {α : Type} {d : Kd α} {e : Nat} {w w' : World} {base : Nat} {ok : Nat → Prop} {v : Value} {xs : List α}
theorem qR (h : d.R e w base ok v xs) [st : UD w w'] : d.R e w' base ok v xs := Kd.XO h (fun k _ X => st.keep k X)
theorem qS (h : d.S e w base ok v xs) [st : UD w w'] : d.S e w' base ok v xs := Kd.AZ h (fun k _ X => st.keep k X)
theorem qN (h : d.N e w base ok v xs) [st : UD w w'] : d.N e w' base ok v xs := Kd.YY h (fun k _ X => st.keep k X)
end
class gR (b : Nat) (L : List Nat) : Prop where
 mem : b ∈ L
instance gR.head (b : Nat) (L : List Nat) : gR b (b :: L) := ⟨List.mem_cons_self⟩
instance (priority := low) gR.tail (a b : Nat) (L : List Nat) [h : gR b L] : gR b (a :: L) := ⟨List.mem_cons_of_mem _ h.mem⟩
class WD (L : List Nat) (w : outParam World) (w' : World) : Prop where
 below : ∀ (w0 : World), (∀ b, b ∈ L → w0.heap.size ≤ b) → Below w0.heap.size w0 w → Below w0.heap.size w0 w'
instance (priority := low) WD.refl (L : List Nat) (w : World) : WD L w w := ⟨fun _ _ h => h⟩
instance WD.alloc (L : List Nat) (w w' : World) (o : Obj) [h : WD L w w'] : WD L w (w'.alloc o) := ⟨fun w0 hl G => I6 (h.below w0 hl G) _⟩
instance WD.drew (L : List Nat) (w w' : World) [h : WD L w w'] : WD L w w'.drew := ⟨fun w0 hl G => G6 (h.below w0 hl G)⟩
instance WD.drewN (L : List Nat) (w w' : World) (n : Nat) [h : WD L w w'] : WD L w (w'.drewN n) := ⟨fun w0 hl G => by apply q5; exact h.below w0 hl G⟩
instance WD.set (L : List Nat) (w w' : World) (b j : Nat) (v : Value) [h : WD L w w'] [hi : gR b L] : WD L w (w'.setCell ⟨b, j, none⟩ v) := ⟨fun w0 hl G => i4 (h.below w0 hl G) (hl b hi.mem)⟩
section
variable {w w0 w' : World} {a b c d e f i j k : Nat}
theorem S0 (ga : Aside0 (w0.heap.size ≤ a)) (h : Below w0.heap.size w0 w) [st : WD [a] w w'] : Below w0.heap.size w0 w' := st.below w0 (by intro x hx; simp only [List.mem_cons, List.not_mem_nil, or_false] at hx; subst hx; exact ga.out) h
theorem X2 (ga : Aside0 (w0.heap.size ≤ a)) (gb : Aside0 (w0.heap.size ≤ b)) (h : Below w0.heap.size w0 w) [st : WD [a, b] w w'] : Below w0.heap.size w0 w' := st.below w0 (by intro x hx; simp only [List.mem_cons, List.not_mem_nil, or_false] at hx; rcases hx with rfl | rfl; all_goals first | exact ga.out | exact gb.out) h
theorem D2 (ga : Aside0 (w0.heap.size ≤ a)) (gb : Aside0 (w0.heap.size ≤ b)) (gc : Aside0 (w0.heap.size ≤ c)) (h : Below w0.heap.size w0 w) [st : WD [a, b, c] w w'] : Below w0.heap.size w0 w' := st.below w0 (by intro x hx; simp only [List.mem_cons, List.not_mem_nil, or_false] at hx; rcases hx with rfl | rfl | rfl; all_goals first | exact ga.out | exact gb.out | exact gc.out) h
theorem nR (ga : Aside0 (w0.heap.size ≤ a)) (gb : Aside0 (w0.heap.size ≤ b)) (gc : Aside0 (w0.heap.size ≤ c)) (gd : Aside0 (w0.heap.size ≤ d)) (h : Below w0.heap.size w0 w) [st : WD [a, b, c, d] w w'] : Below w0.heap.size w0 w' := st.below w0 (by intro x hx; simp only [List.mem_cons, List.not_mem_nil, or_false] at hx; rcases hx with rfl | rfl | rfl | rfl; all_goals first | exact ga.out | exact gb.out | exact gc.out | exact gd.out) h
end
section
variable {w : World} {g : Nat} {t : TypeId} {a b c d e f : Value}
theorem V2 (h : w.heap[g]? = some (.cells #[a, b, c] t (0, 0))) : w.cell? ⟨g, 0, none⟩ = some a ∧ w.cell? ⟨g, 1, none⟩ = some b ∧ w.cell? ⟨g, 2, none⟩ = some c ∧ w.frozen? ⟨g, 0, none⟩ = false ∧ w.frozen? ⟨g, 1, none⟩ = false ∧ w.frozen? ⟨g, 2, none⟩ = false :=
 ⟨(G0 h 0).trans rfl, (G0 h 1).trans rfl, (G0 h 2).trans rfl, Y0 h 0, Y0 h 1, Y0 h 2⟩
theorem S1 (h : w.heap[g]? = some (.cells #[a, b, c, d, e, f] t (0, 0))) : w.cell? ⟨g, 0, none⟩ = some a ∧ w.cell? ⟨g, 1, none⟩ = some b ∧ w.cell? ⟨g, 2, none⟩ = some c ∧ w.cell? ⟨g, 3, none⟩ = some d ∧ w.cell? ⟨g, 4, none⟩ = some e ∧ w.cell? ⟨g, 5, none⟩ = some f ∧
 w.frozen? ⟨g, 0, none⟩ = false ∧ w.frozen? ⟨g, 1, none⟩ = false ∧ w.frozen? ⟨g, 2, none⟩ = false ∧ w.frozen? ⟨g, 3, none⟩ = false ∧ w.frozen? ⟨g, 4, none⟩ = false ∧ w.frozen? ⟨g, 5, none⟩ = false :=
 ⟨(G0 h 0).trans rfl, (G0 h 1).trans rfl, (G0 h 2).trans rfl, (G0 h 3).trans rfl, (G0 h 4).trans rfl, (G0 h 5).trans rfl, Y0 h 0, Y0 h 1, Y0 h 2, Y0 h 3, Y0 h 4, Y0 h 5⟩
end
def bs (k n : Nat) : Array Bool := ((List.range n).map fun i => Nat.testBit k i).toArray
section
variable {P : Program} {ops : Array Oper} {Q : Exit → Act → World → Prop} {md : Region.Mode} {S : World → Prop} {ds : List Nat}
theorem l2 (i : Nat) (N : Option Tmp) (l' : Array Bool) {oi : Oper} {v : Value} {fuel : Nat} {l : Array Bool} {a a' : Act} {w : World}
 (h : g8 P md ops Q S ds fuel l' a' w) (hi : ops[i]? = some oi := by exact rfl) (hN : oi.dst = N := by exact rfl) (hc : AV md ops l l' i = true := by exact z8 B2.out (by kernel_rfl))
 (hQ : ∀ c a w, Q (.panic c) (a.put oi.dst v) w → Q (.panic c) a w := by exact fun _ _ _ h => h)
 (hy : Yields P ops oi v a := by refine Or.inl ⟨by rfl, ?_⟩; intro w'; go_simp; with_reducible rfl)
 (ha : a.put N v = a' := by simp only [Act.put, List.setIfInBounds_toArray, List.set_cons_zero, List.set_cons_succ, B3, M3]; rfl) : g8 P md ops Q S ds (fuel + 1) l a w :=
 j6 l' hi hN hc hQ hy ha h
theorem D5 (N : Option Tmp) {fuel : Nat} {l : Array Bool} {a a' : Act} {v : Value} {w : World} (h : g8 P md ops Q S ds fuel l a' w)
 (ha : a.put N v = a' := by simp only [Act.put, List.setIfInBounds_toArray, List.set_cons_zero, List.set_cons_succ, B3, M3]; rfl) : g8 P md ops Q S ds fuel l (a.put N v) w := i7 ha h
end
end Go.Proofs.Ytdmnknhlibaaoaa.M
namespace Go.Proofs.Ytdmnknhlibaaoaa.M
open Go.RowKit Go.Proofs.YtdmnknhlibaaoaaW.PrintWords Go.Proofs.YtdmnknhlibaaoaaW.PrintLast Go.Proofs.YtdmnknhlibaaoaaW.PrintMore
attribute [local go_sem] cH bH eH jH fH nH qH oH
set_option linter.unusedVariables false
set_option linter.unusedSimpArgs false
def V8.f (k : Nat) (I0 : Int) (C0 : Int) (B0 : List (List (N0))) (F4 : Int) (G4 : Int) (Q2 : List (List (N0))) : Option (Bool) := if I0 = F4 then (if C0 = G4 then ((AA.f k B0 Q2).bind fun t103 => (some t103)) else (some false)) else (some false)
theorem V8.mono : ∀ a0 a1 a2 a3 a4 a5 k, F0 (V8.f k a0 a1 a2 a3 a4 a5) (V8.f (k + 1) a0 a1 a2 a3 a4 a5) := by
 intro a0 a1 a2 a3 a4 a5 k
 unfold V8.f
 repeat' first
  | (with_reducible exact AA.mono _ _ _)
  | (with_reducible exact F0.refl _)
  | (with_reducible exact F0.none _)
  | (with_reducible refine F0.ite ?_ ?_)
  | (with_reducible refine F0.bind ?_ (fun _ => ?_))
  | exact AA.mono _ _ _
  | exact F0.none _
  | refine F0.ite ?_ ?_
  | refine F0.bind ?_ (fun _ => ?_)
set_option maxHeartbeats 8000000 in
set_option maxRecDepth 100000 in
theorem V8.calls (k : Nat) (I0 : Int) (C0 : Int) (Q3 : Option Addr) (N3 : Nat) (B0 : List (List (N0))) (F4 : Int) (G4 : Int) (JB : Option Addr) (rB : Nat) (Q2 : List (List (N0))) (r : Bool) (w : World) (oA : Kd.C (Kd.slice 28 L3) w Q3 B0.length B0) (qA : B0.length ≤ N3) (ML : Kd.C (Kd.slice 28 L3) w JB Q2.length Q2) (GL : Q2.length ≤ rB) (h : V8.f k I0 C0 B0 F4 G4 Q2 = some r) :
 Calls Try.prog 14 #[.agg #[.int .i64 I0, .int .i64 C0, .slice Q3 B0.length N3], .agg #[.int .i64 F4, .int .i64 G4, .slice JB Q2.length rB]] w fun e w' => e = .returned (.bool r) ∧ Below w.heap.size w w' := by
 have OH := Try.underlying24; have X6 := am oA; have bC := am qA; clear oA qA; have bL := am ML; have rS := am GL; clear ML GL; have I := am (Below.refl w.heap.size w); have H := h; unfold V8.f at H; clear h; by_cases c3 : I0 = F4; rotate_left
 ·rw [if_neg c3] at H; have S8 : (I0 == F4) = false := beq_eq_false_iff_ne.mpr c3; have qD : (I0 != F4) = true := bne_iff_ne.mpr c3; obtain rfl := Option.some.inj H; go_enter Try.func14, Try.ntmps14; go_wp2_with (first | ((with_reducible refine P2 (N := 2) rfl ?_); refine D3 ?hg (N := 2) ?hd (cs := #[.int .i64 I0, .int .i64 C0, .slice Q3 B0.length N3]) (t := 24) ?hr ?_; (case hd => rfl); (case hg => rfl); (case hr => exact Y9); intro n0 hg b_ M0 G; have Y := am (M0); have W6 := am ((U2 : w.heap.size ≤ n0)); have H0 := am ((U2 : w.heap.size ≤ n0)); replace I := am (T0 (qB I.out) G); clear G M0 hg) | ((with_reducible refine P2 (N := 3) rfl ?_); refine D3 ?hg (N := 3) ?hd (cs := #[.int .i64 F4, .int .i64 G4, .slice JB Q2.length rB]) (t := 24) ?hr ?_; (case hd => rfl); (case hg => rfl); (case hr => exact Y9); intro K0 hg E7 M0 G; have o0 := am (M0); have YA := am ((J7 : w.heap.size ≤ K0)); have Q0 := am ((J7 : w.heap.size ≤ K0)); replace I := am (T0 (S0 H0 I.out) G); have X5 := am ((V7 : n0 ≠ K0)); have l5 := am ((X7 : K0 ≠ n0)); replace Y := am (O0 (bq Y.out) G); clear G M0 hg; have bu0 := X5.out; have cc8 := l5.out; obtain ⟨AP, dQ, KQ, VP, AQ, aQ⟩ := V2 Y.out; obtain ⟨LP, PP, EP, CQ, CP, zP⟩ := V2 o0.out)); go_ret; exact ⟨L_, X2 H0 Q0 I.out⟩
 rw [if_pos c3] at H; have S8 : (I0 == F4) = true := beq_iff_eq.mpr c3; have qD : (I0 != F4) = false := bne_eq_false_iff_eq.mpr c3; clear c3; by_cases c4 : C0 = G4; rotate_left
 ·rw [if_neg c4] at H; have T7 : (C0 == G4) = false := beq_eq_false_iff_ne.mpr c4; have RE : (C0 != G4) = true := bne_iff_ne.mpr c4; obtain rfl := Option.some.inj H; go_enter Try.func14, Try.ntmps14; go_wp2_with (first | ((with_reducible refine P2 (N := 2) rfl ?_); refine D3 ?hg (N := 2) ?hd (cs := #[.int .i64 I0, .int .i64 C0, .slice Q3 B0.length N3]) (t := 24) ?hr ?_; (case hd => rfl); (case hg => rfl); (case hr => exact Y9); intro n0 hg pM M0 G; have Y := am (M0); have W6 := am ((U2 : w.heap.size ≤ n0)); have H0 := am ((U2 : w.heap.size ≤ n0)); replace I := am (T0 (qB I.out) G); clear G M0 hg) | ((with_reducible refine P2 (N := 3) rfl ?_); refine D3 ?hg (N := 3) ?hd (cs := #[.int .i64 F4, .int .i64 G4, .slice JB Q2.length rB]) (t := 24) ?hr ?_; (case hd => rfl); (case hg => rfl); (case hr => exact Y9); intro K0 hg BH M0 G; have o0 := am (M0); have YA := am ((J7 : w.heap.size ≤ K0)); have Q0 := am ((J7 : w.heap.size ≤ K0)); replace I := am (T0 (S0 H0 I.out) G); have X5 := am ((V7 : n0 ≠ K0)); have l5 := am ((X7 : K0 ≠ n0)); replace Y := am (O0 (bq Y.out) G); clear G M0 hg; have Sn := X5.out; have Gz := l5.out; obtain ⟨IL, rM, aM, zM, IM, OL⟩ := V2 Y.out; obtain ⟨gM, BL, yL, MM, UL, vM⟩ := V2 o0.out)); go_ret; exact ⟨L_, X2 H0 Q0 I.out⟩
 rw [if_pos c4] at H; have T7 : (C0 == G4) = true := beq_iff_eq.mpr c4; have RE : (C0 != G4) = false := bne_eq_false_iff_eq.mpr c4; clear c4; replace H := L2 H; obtain ⟨t103, v_, H⟩ := H; try dsimp -simprocs only at H
 have A5 := am v_; clear v_; obtain rfl := Option.some.inj H; go_enter Try.func14, Try.ntmps14; go_wp2_with (first | ((with_reducible refine P2 (N := 2) rfl ?_); refine D3 ?hg (N := 2) ?hd (cs := #[.int .i64 I0, .int .i64 C0, .slice Q3 B0.length N3]) (t := 24) ?hr ?_; (case hd => rfl); (case hg => rfl); (case hr => exact Y9); intro n0 hg w6 M0 G; have Y := am (M0); have W6 := am ((U2 : w.heap.size ≤ n0)); have H0 := am ((U2 : w.heap.size ≤ n0)); replace I := am (T0 (qB I.out) G); clear G M0 hg) | ((with_reducible refine P2 (N := 3) rfl ?_); refine D3 ?hg (N := 3) ?hd (cs := #[.int .i64 F4, .int .i64 G4, .slice JB Q2.length rB]) (t := 24) ?hr ?_; (case hd => rfl); (case hg => rfl); (case hr => exact Y9); intro K0 hg w7 M0 G; have o0 := am (M0); have YA := am ((J7 : w.heap.size ≤ K0)); have Q0 := am ((J7 : w.heap.size ≤ K0)); replace I := am (T0 (S0 H0 I.out) G); have X5 := am ((V7 : n0 ≠ K0)); have l5 := am ((X7 : K0 ≠ n0)); replace Y := am (O0 (bq Y.out) G); clear G M0 hg; have Gw := X5.out; have Do := l5.out; obtain ⟨mJ, IJ, CJ, GJ, zJ, DJ⟩ := V2 Y.out; obtain ⟨MU, UR, iT, nT, QS, PU⟩ := V2 o0.out) | (go_at_call 26; (with_reducible refine (AA.calls k _ _ B0 _ _ Q2 t103 _ ?side1 ?side2 ?side3 ?side4 A5.out).mono ?_); (case side1 => repeat (first | exact (Kd.cB X6.out I.out) | (with_reducible refine Kd.LA ?_ _) | (with_reducible refine Kd.MA ?_ _) | (with_reducible refine Kd.KA ?_))); (case side2 => exact bC.out); (case side3 => repeat (first | exact (Kd.cB bL.out I.out) | (with_reducible refine Kd.LA ?_ _) | (with_reducible refine Kd.MA ?_ _) | (with_reducible refine Kd.KA ?_))); (case side4 => exact rS.out); rintro e w' ⟨rfl, ⟨nd, rfl⟩⟩)); go_ret; exact ⟨L_, X2 H0 Q0 I.out⟩
def WM.f (a0 : Int) : Option (Bool) := if a0 ≥ 0 then (some (decide (a0 ≤ 268435455))) else (some false)
set_option maxHeartbeats 8000000 in
set_option maxRecDepth 100000 in
theorem WM.calls (a0 : Int) (r : Bool) (w : World) (h : WM.f a0 = some r) :
 Calls Try.prog 57 #[.int .i64 a0] w fun e w' => e = .returned (.bool r) ∧ E_ w w' := by
 have H := h; unfold WM.f at H; clear h; by_cases c2 : a0 ≥ 0
 ·rw [if_pos c2] at H; have G9 : decide (0 ≤ a0) = true := decide_eq_true c2; clear c2; obtain rfl := Option.some.inj H; go_enter Try.func57, Try.ntmps57; go_wp2; go_ret; exact ⟨o6, F5⟩
 ·rw [if_neg c2] at H; have G9 : decide (0 ≤ a0) = false := decide_eq_false c2; clear c2; obtain rfl := Option.some.inj H; go_enter Try.func57, Try.ntmps57; go_wp2; go_ret; exact ⟨o6, F5⟩
def YC.f (a0 : Int) (a1 : Int) (a2 : Int) : Option (Bool) := if a0 ≥ a1 then (some (decide (a0 ≤ a2))) else (some false)
set_option maxHeartbeats 8000000 in
set_option maxRecDepth 100000 in
theorem YC.calls (a0 : Int) (a1 : Int) (a2 : Int) (r : Bool) (w : World) (h : YC.f a0 a1 a2 = some r) :
 Calls Try.prog 58 #[.int .i64 a0, .int .i64 a1, .int .i64 a2] w fun e w' => e = .returned (.bool r) ∧ E_ w w' := by
 have H := h; unfold YC.f at H; clear h; by_cases c4 : a0 ≥ a1
 ·rw [if_pos c4] at H; have T7 : decide (a1 ≤ a0) = true := decide_eq_true c4; clear c4; obtain rfl := Option.some.inj H; go_enter Try.func58, Try.ntmps58; go_wp2; go_ret; exact ⟨o6, F5⟩
 ·rw [if_neg c4] at H; have T7 : decide (a1 ≤ a0) = false := decide_eq_false c4; clear c4; obtain rfl := Option.some.inj H; go_enter Try.func58, Try.ntmps58; go_wp2; go_ret; exact ⟨o6, F5⟩
mutual
def K3.j0 : Nat → Bool → Int → Int → Int → Int → Int → ByteArray → Option (Bool)
 | 0, _, _, _, _, _, _, _ => none
 | k + 1, vH, H5, W3, T2, U_, cA, MB => if vH = true then (some false) else (if MB.toList = ([] : List UInt8) then ((YC.f T2 0 15).bind fun t103 => (if t103 = true then ((YC.f U_ 0 127).bind fun t104 => (K3.j1 k t104 H5 W3 T2 U_ cA MB)) else (K3.j1 k false H5 W3 T2 U_ cA MB))) else (K3.j1 k false H5 W3 T2 U_ cA MB))
def K3.j1 : Nat → Bool → Int → Int → Int → Int → Int → ByteArray → Option (Bool)
 | 0, _, _, _, _, _, _, _ => none
 | k + 1, x3, H5, W3, T2, U_, cA, MB => if T2 = 0 then (K3.j2 k x3 (cA == 0) H5 W3 T2 U_ cA MB) else (K3.j2 k x3 false H5 W3 T2 U_ cA MB)
def K3.j2 : Nat → Bool → Bool → Int → Int → Int → Int → Int → ByteArray → Option (Bool)
 | 0, _, _, _, _, _, _, _, _ => none
 | k + 1, x3, x4, H5, W3, T2, U_, cA, MB => if W3 = 8 then (K3.j3 k x3 x4 W3 (W3 == 8) H5 W3 T2 U_ cA MB) else (if W3 = 9 then (K3.j3 k x3 x4 W3 (W3 == 9) H5 W3 T2 U_ cA MB) else (if W3 = 10 then (K3.j3 k x3 x4 W3 (W3 == 10) H5 W3 T2 U_ cA MB) else (if W3 = 11 then (K3.j3 k x3 x4 W3 (W3 == 11) H5 W3 T2 U_ cA MB) else (K3.j3 k x3 x4 W3 (W3 == 14) H5 W3 T2 U_ cA MB))))
def K3.j3 : Nat → Bool → Bool → Int → Bool → Int → Int → Int → Int → Int → ByteArray → Option (Bool)
 | 0, _, _, _, _, _, _, _, _, _, _ => none
 | k + 1, x3, x4, cM, x38, H5, W3, T2, U_, cA, MB => if x38 = true then (if x3 = true then ((YC.f cA 0 127).bind fun t105 => (some t105)) else (some false)) else (if cM = 12 then (K3.j4 k x3 x4 cM (cM == 12) H5 W3 T2 U_ cA MB) else (K3.j4 k x3 x4 cM (cM == 13) H5 W3 T2 U_ cA MB))
def K3.j4 : Nat → Bool → Bool → Int → Bool → Int → Int → Int → Int → Int → ByteArray → Option (Bool)
 | 0, _, _, _, _, _, _, _, _, _, _ => none
 | k + 1, x3, x4, cM, x50, H5, W3, T2, U_, cA, MB => if x50 = true then (if x3 = true then (some (cA == 0)) else (some false)) else (if cM = 15 then (if x4 = true then (if U_ = 240 then (some true) else (some (U_ == 247))) else (some false)) else (if cM = 16 then (if x4 = true then ((YC.f U_ 0 127).bind fun t106 => (some t106)) else (some false)) else (some false)))
end
def K3.f (k : Nat) (I0 : Int) (C0 : Int) (i1 : Int) (X0 : Int) (N1 : Int) (Z0 : ByteArray) : Option (Bool) := (WM.f I0).bind fun t102 => (if t102 = true then (K3.j0 k (decide ((Z0.size : Int) > 100000)) I0 C0 i1 X0 N1 Z0) else (K3.j0 k true I0 C0 i1 X0 N1 Z0))
theorem K3.mono_l : ∀ k, (∀ y0 y1 y2 y3 y4 y5 y6, F0 (K3.j0 k y0 y1 y2 y3 y4 y5 y6) (K3.j0 (k + 1) y0 y1 y2 y3 y4 y5 y6)) ∧ (∀ y0 y1 y2 y3 y4 y5 y6, F0 (K3.j1 k y0 y1 y2 y3 y4 y5 y6) (K3.j1 (k + 1) y0 y1 y2 y3 y4 y5 y6)) ∧ (∀ y0 y1 y2 y3 y4 y5 y6 y7, F0 (K3.j2 k y0 y1 y2 y3 y4 y5 y6 y7) (K3.j2 (k + 1) y0 y1 y2 y3 y4 y5 y6 y7)) ∧ (∀ y0 y1 y2 y3 y4 y5 y6 y7 y8 y9, F0 (K3.j3 k y0 y1 y2 y3 y4 y5 y6 y7 y8 y9) (K3.j3 (k + 1) y0 y1 y2 y3 y4 y5 y6 y7 y8 y9)) ∧ (∀ y0 y1 y2 y3 y4 y5 y6 y7 y8 y9, F0 (K3.j4 k y0 y1 y2 y3 y4 y5 y6 y7 y8 y9) (K3.j4 (k + 1) y0 y1 y2 y3 y4 y5 y6 y7 y8 y9))
 | 0 => ⟨fun _ _ _ _ _ _ _ r h => by simp [K3.j0] at h, fun _ _ _ _ _ _ _ r h => by simp [K3.j1] at h, fun _ _ _ _ _ _ _ _ r h => by simp [K3.j2] at h, fun _ _ _ _ _ _ _ _ _ _ r h => by simp [K3.j3] at h, fun _ _ _ _ _ _ _ _ _ _ r h => by simp [K3.j4] at h⟩
 | k + 1 => by
  obtain ⟨O2, Z5, rC, kK, ih4⟩ := K3.mono_l k
  refine ⟨?_, ?_, ?_, ?_, ?_⟩
  ·intro y0 y1 y2 y3 y4 y5 y6
   unfold K3.j0
   repeat' with_reducible first
    | apply Z5
    | apply F0.refl
    | refine F0.ite ?_ ?_
    | refine F0.bind ?_ (fun _ => ?_)
  ·intro y0 y1 y2 y3 y4 y5 y6
   unfold K3.j1
   repeat' with_reducible first
    | apply rC
    | refine F0.ite ?_ ?_
  ·intro y0 y1 y2 y3 y4 y5 y6 y7
   unfold K3.j2
   repeat' with_reducible first
    | apply kK
    | refine F0.ite ?_ ?_
  ·intro y0 y1 y2 y3 y4 y5 y6 y7 y8 y9
   unfold K3.j3
   repeat' with_reducible first
    | apply ih4
    | apply F0.refl
    | refine F0.ite ?_ ?_
  ·intro y0 y1 y2 y3 y4 y5 y6 y7 y8 y9
   unfold K3.j4
   repeat' with_reducible first
    | apply F0.refl
theorem K3.mono : ∀ a0 a1 a2 a3 a4 a5 k, F0 (K3.f k a0 a1 a2 a3 a4 a5) (K3.f (k + 1) a0 a1 a2 a3 a4 a5) := by
 intro a0 a1 a2 a3 a4 a5 k
 obtain ⟨O2, Z5, rC, kK, ih4⟩ := K3.mono_l k
 unfold K3.f
 repeat' with_reducible first
  | apply O2
  | apply F0.refl
  | refine F0.ite ?_ ?_
  | refine F0.bind ?_ (fun _ => ?_)
set_option maxHeartbeats 8000000 in
set_option maxRecDepth 100000 in
theorem K3.calls (k : Nat) (I0 : Int) (C0 : Int) (i1 : Int) (X0 : Int) (N1 : Int) (Z0 : ByteArray) (r : Bool) (w : World) (h : K3.f k I0 C0 i1 X0 N1 Z0 = some r) :
 Calls Try.prog 35 #[.agg #[.int .i64 I0, .int .i64 C0, .int .i64 i1, .int .i64 X0, .int .i64 N1, .string Z0]] w fun e w' => e = .returned (.bool r) ∧ Below w.heap.size w w' := by
 have WB := Try.underlying28; have I := am (Below.refl w.heap.size w); have H := h; unfold K3.f at H; clear h; have PC := am H; clear H; go_enter Try.func35, Try.ntmps35; go_upto_region 1 with (((with_reducible refine P2 (N := 1) rfl ?_); (try (refine eF (by rfl) ?_; dsimp only)); refine D3 ?hg (N := 1) ?hd (cs := #[.int .i64 I0, .int .i64 C0, .int .i64 i1, .int .i64 X0, .int .i64 N1, .string Z0]) (t := 28) ?hr ?_; (case hd => rfl); (case hg => rfl); (case hr => exact Z2); intro n0 hg w3 M0 G; have Y := am (M0); have W6 := am ((U2 : w.heap.size ≤ n0)); have H0 := am ((U2 : w.heap.size ≤ n0)); replace I := am (T0 (qB I.out) G); clear G M0 hg))
 (try simp only [Act.put, List.setIfInBounds_toArray, List.set_cons_zero, List.set_cons_succ]); go_cut [14] (fun Uc wc => ∃ (kq : Nat) (xY : Bool), Uc = .bool xY ∧ Aside0 (K3.j0 kq xY I0 C0 i1 X0 N1 Z0 = some r) ∧ Aside0 (kq ≤ k) ∧ Aside0 (wc.heap[n0]? = some (.cells #[.int .i64 I0, .int .i64 C0, .int .i64 i1, .int .i64 X0, .int .i64 N1, .string Z0] 28 (0, 0))) ∧ Aside0 (Below w.heap.size w wc))
 case first =>
  have H := PC.out; clear PC; replace H := L2 H; obtain ⟨t102, mA, H⟩ := H; have A4 := am mA; clear mA; by_cases c5 : t102 = true
  ·subst c5; have H1 : (K3.j0 k (decide ((Z0.size : Int) > 100000)) I0 C0 i1 X0 N1 Z0) = some r := by rw [if_pos rfl] at H; exact H
   clear H; have H := H1; clear H1; have H' := am H; clear H; obtain ⟨ch8, ba4, av5, fi2, ew0, fm0, cg6, cd3, ay5, dd5, fr2, ed8⟩ := S1 Y.out; go_wp2_with (((with_reducible refine H2 (f := 57) rfl ?_); refine G2 (some 7) rfl rfl Try.func57 (by kernel_rfl) rfl #[.int .i64 I0] rfl F2 ?_; (with_reducible refine (WM.calls I0 true _ A4.out).mono ?_); rintro e w' ⟨rfl, ⟨nd, rfl⟩⟩; refine ⟨_, rfl, ?_⟩)); go_meet
   case rel => exact ⟨_, (decide ((Z0.size : Int) > 100000)), (by rfl), H', ⟨by omega⟩, ⟨bq Y.out⟩, ⟨S0 H0 I.out⟩⟩
  replace c5 := Bool.eq_false_iff.mpr c5; subst c5; have H1 : (K3.j0 k true I0 C0 i1 X0 N1 Z0) = some r := by rw [if_neg (show ¬ (false = true) by decide)] at H; exact H
  clear H; have H := H1; clear H1; have H' := am H; clear H; obtain ⟨aK, VK, pK, oM, eX, dX, kL, QK, YK, bM, rX, tX⟩ := S1 Y.out; go_wp2_with (((with_reducible refine H2 (f := 57) rfl ?_); refine G2 (some 7) rfl rfl Try.func57 (by kernel_rfl) rfl #[.int .i64 I0] rfl F2 ?_; (with_reducible refine (WM.calls I0 false _ A4.out).mono ?_); rintro e w' ⟨rfl, ⟨nd, rfl⟩⟩; refine ⟨_, rfl, ?_⟩)); go_meet
  case rel => exact ⟨_, (true), (by rfl), H', ⟨by omega⟩, ⟨bq Y.out⟩, ⟨S0 H0 I.out⟩⟩
 case rest =>
  clear PC; obtain ⟨kq, xY, rfl, HA, UB, Y, I⟩ := hcut; cases kq with
  | zero => exact absurd HA.out (by simp [K3.j0])
  | succ xC =>
   have H := HA.out; clear HA; simp only [K3.j0] at H; by_cases c8 : xY = true
   ·subst c8; have H1 : (some false) = some r := by rw [if_pos rfl] at H; exact H
    clear H; have H := H1; clear H1; obtain rfl := Option.some.inj H; go_wp2; go_ret; exact ⟨by rfl, S0 H0 I.out⟩
   replace c8 := Bool.eq_false_iff.mpr c8; subst c8; have H1 : (if Z0.toList = ([] : List UInt8) then ((YC.f i1 0 15).bind fun t103 => (if t103 = true then ((YC.f X0 0 127).bind fun t104 => (K3.j1 xC t104 I0 C0 i1 X0 N1 Z0)) else (K3.j1 xC false I0 C0 i1 X0 N1 Z0))) else (K3.j1 xC false I0 C0 i1 X0 N1 Z0)) = some r := by rw [if_neg (show ¬ (false = true) by decide)] at H; exact H
   clear H; have H := H1; clear H1; have tO := am H; clear H; go_upto_region 3 with (fail)
   go_cut [3] (fun v3 wc => ∃ (kq : Nat) (EH : Bool), v3 = .bool EH ∧ Aside0 (K3.j1 kq EH I0 C0 i1 X0 N1 Z0 = some r) ∧ Aside0 (kq ≤ xC) ∧ Aside0 (wc.heap[n0]? = some (.cells #[.int .i64 I0, .int .i64 C0, .int .i64 i1, .int .i64 X0, .int .i64 N1, .string Z0] 28 (0, 0))) ∧ Aside0 (Below w.heap.size w wc))
   case first =>
    have H := tO.out; clear tO; by_cases c10 : Z0.toList = ([] : List UInt8); rotate_left
    ·rw [if_neg c10] at H; have hG : (Z0.toList == ([] : List UInt8)) = false := beq_eq_false_iff_ne.mpr c10; have xO : (Z0.toList != ([] : List UInt8)) = true := bne_iff_ne.mpr c10; have H' := am H; clear H; obtain ⟨dL, oK, IK, WT, CW, ZW, AK, mL, dK, SR, PV, QW⟩ := S1 Y.out; go_wp2; go_meet
     case rel => exact ⟨_, (false), (by rfl), H', ⟨by have := UB.out; omega⟩, ⟨bq Y.out⟩, ⟨S0 H0 I.out⟩⟩
    rw [if_pos c10] at H; have hG : (Z0.toList == ([] : List UInt8)) = true := beq_iff_eq.mpr c10; have xO : (Z0.toList != ([] : List UInt8)) = false := bne_eq_false_iff_eq.mpr c10; clear c10; replace H := L2 H; obtain ⟨t103, XF, H⟩ := H; have VE := am XF; clear XF; by_cases O6 : t103 = true; rotate_left
    ·replace O6 := Bool.eq_false_iff.mpr O6; subst O6; have H1 : (K3.j1 xC false I0 C0 i1 X0 N1 Z0) = some r := by rw [if_neg (show ¬ (false = true) by decide)] at H; exact H
     clear H; have H := H1; clear H1; have H' := am H; clear H; obtain ⟨gM, BL, yL, kQ, Jp, Lr, MM, UL, vM, pQ, Ju, ac1⟩ := S1 Y.out; go_wp2_with ((go_at_call 58; (with_reducible refine (YC.calls i1 0 15 false _ VE.out).mono ?_); rintro e w' ⟨rfl, ⟨nd, rfl⟩⟩)); go_meet
     case rel => exact ⟨_, (false), (by rfl), H', ⟨by have := UB.out; omega⟩, ⟨bq Y.out⟩, ⟨S0 H0 I.out⟩⟩
    subst O6; have H1 : ((YC.f X0 0 127).bind fun t104 => (K3.j1 xC t104 I0 C0 i1 X0 N1 Z0)) = some r := by rw [if_pos rfl] at H; exact H
    clear H; have H := H1; clear H1; replace H := L2 H; obtain ⟨t104, tS, H⟩ := H; have Se := am tS; clear tS; have H' := am H; clear H; obtain ⟨IL, rM, aM, Jx, fg7, eb6, zM, IM, OL, Nr, ez8, ew1⟩ := S1 Y.out; go_wp2_with (first | (go_at_call 58; (with_reducible refine (YC.calls i1 0 15 true _ VE.out).mono ?_); rintro e w' ⟨rfl, ⟨nd, rfl⟩⟩) | (go_at_call 58; (with_reducible refine (YC.calls X0 0 127 t104 _ Se.out).mono ?_); rintro e w' ⟨rfl, ⟨nd, rfl⟩⟩)); go_meet
    case rel => exact ⟨_, (t104), (by rfl), H', ⟨by have := UB.out; omega⟩, ⟨bq Y.out⟩, ⟨S0 H0 I.out⟩⟩
   case rest =>
    clear tO; obtain ⟨kq, EH, rfl, HA, xF, Y, I⟩ := hcut; cases kq with
    | zero => exact absurd HA.out (by simp [K3.j1])
    | succ xQ =>
     have H := HA.out; clear HA; simp only [K3.j1] at H; have Wi := am H; clear H; go_upto_region 4 with (fail)
     go_cut [4] (fun v4 wc => ∃ (kq : Nat) (oI : Bool), v4 = .bool oI ∧ Aside0 (K3.j2 kq EH oI I0 C0 i1 X0 N1 Z0 = some r) ∧ Aside0 (kq ≤ xQ) ∧ Aside0 (wc.heap[n0]? = some (.cells #[.int .i64 I0, .int .i64 C0, .int .i64 i1, .int .i64 X0, .int .i64 N1, .string Z0] 28 (0, 0))) ∧ Aside0 (Below w.heap.size w wc))
     case first =>
      have H := Wi.out; clear Wi; by_cases M7 : i1 = 0; rotate_left
      ·rw [if_neg M7] at H; have xJ : (i1 == 0) = false := beq_eq_false_iff_ne.mpr M7; have nW : (i1 != 0) = true := bne_iff_ne.mpr M7; have H' := am H; clear H; obtain ⟨LP, PP, EP, WR, My, Gx, CQ, CP, zP, eS, Tx, Mw⟩ := S1 Y.out; go_wp2; go_meet
       case rel => exact ⟨_, (false), (by rfl), H', ⟨by have := UB.out; have := xF.out; omega⟩, ⟨bq Y.out⟩, ⟨S0 H0 I.out⟩⟩
      rw [if_pos M7] at H; have xJ : (i1 == 0) = true := beq_iff_eq.mpr M7; have nW : (i1 != 0) = false := bne_eq_false_iff_eq.mpr M7; clear M7; have H' := am H; clear H; obtain ⟨AP, dQ, KQ, Lj, Tr, Cz, VP, AQ, aQ, Yj, Tp, Ky⟩ := S1 Y.out; go_wp2; go_meet
      case rel => exact ⟨_, ((N1 == 0)), (by rfl), H', ⟨by have := UB.out; have := xF.out; omega⟩, ⟨bq Y.out⟩, ⟨S0 H0 I.out⟩⟩
     case rest =>
      clear Wi; obtain ⟨kq, oI, rfl, HA, Xb, Y, I⟩ := hcut; cases kq with
      | zero => exact absurd HA.out (by simp [K3.j2])
      | succ ci1 =>
       have H := HA.out; clear HA; simp only [K3.j2] at H; have Ih := am H; clear H; obtain ⟨Qu, Sp, ae0, Ww, Jr, Dq, aa7, Dw, ad2, Yn, Bs, Uu⟩ := S1 Y.out; go_upto_if 38 with (fail)
       go_cut [38] (fun v38 wc => ∃ (kq : Nat) (LY : Bool), v38 = .bool LY ∧ Aside0 (K3.j3 kq EH oI C0 LY I0 C0 i1 X0 N1 Z0 = some r) ∧ Aside0 (kq ≤ ci1) ∧ Aside0 (wc.heap[n0]? = some (.cells #[.int .i64 I0, .int .i64 C0, .int .i64 i1, .int .i64 X0, .int .i64 N1, .string Z0] 28 (0, 0))) ∧ Aside0 (Below w.heap.size w wc))
       case first =>
        have H := Ih.out; clear Ih; by_cases L5 : C0 = 8
        ·rw [if_pos L5] at H; have EF : (C0 == 8) = true := beq_iff_eq.mpr L5; have iL : (C0 != 8) = false := bne_eq_false_iff_eq.mpr L5; clear L5; (rw [EF]); have H' := am H; clear H; go_wp2; go_meet
         case rel => exact ⟨_, ((C0 == 8)), (by (simp [*]; done)), H', ⟨xV⟩, ⟨bq Y.out⟩, ⟨S0 H0 I.out⟩⟩
        rw [if_neg L5] at H; have EF : (C0 == 8) = false := beq_eq_false_iff_ne.mpr L5; have iL : (C0 != 8) = true := bne_iff_ne.mpr L5; (rw [EF]); by_cases b6 : C0 = 9
        ·rw [if_pos b6] at H; have SE : (C0 == 9) = true := beq_iff_eq.mpr b6; have XN : (C0 != 9) = false := bne_eq_false_iff_eq.mpr b6; clear b6; have H' := am H; clear H; go_wp2; go_meet
         case rel => exact ⟨_, ((C0 == 9)), (by (simp [*]; done)), H', ⟨xV⟩, ⟨bq Y.out⟩, ⟨S0 H0 I.out⟩⟩
        rw [if_neg b6] at H; have SE : (C0 == 9) = false := beq_eq_false_iff_ne.mpr b6; have XN : (C0 != 9) = true := bne_iff_ne.mpr b6; by_cases j5 : C0 = 10
        ·rw [if_pos j5] at H; have xE : (C0 == 10) = true := beq_iff_eq.mpr j5; have NK : (C0 != 10) = false := bne_eq_false_iff_eq.mpr j5; clear j5; have H' := am H; clear H; go_wp2; go_meet
         case rel => exact ⟨_, ((C0 == 10)), (by (simp [*]; done)), H', ⟨xV⟩, ⟨bq Y.out⟩, ⟨S0 H0 I.out⟩⟩
        rw [if_neg j5] at H; have xE : (C0 == 10) = false := beq_eq_false_iff_ne.mpr j5; have NK : (C0 != 10) = true := bne_iff_ne.mpr j5; by_cases i6 : C0 = 11; rotate_left
        ·rw [if_neg i6] at H; have JN : (C0 == 11) = false := beq_eq_false_iff_ne.mpr i6; have jQ : (C0 != 11) = true := bne_iff_ne.mpr i6; have H' := am H; clear H; go_wp2; go_meet
         case rel => exact ⟨_, ((C0 == 14)), (by rfl), H', ⟨xV⟩, ⟨bq Y.out⟩, ⟨S0 H0 I.out⟩⟩
        rw [if_pos i6] at H; have JN : (C0 == 11) = true := beq_iff_eq.mpr i6; have jQ : (C0 != 11) = false := bne_eq_false_iff_eq.mpr i6; clear i6; have H' := am H; clear H; go_wp2; go_meet
        case rel => exact ⟨_, ((C0 == 11)), (by (simp [*]; done)), H', ⟨xV⟩, ⟨bq Y.out⟩, ⟨S0 H0 I.out⟩⟩
       case rest =>
        clear Ih; obtain ⟨kq, LY, rfl, HA, Ht, Y, I⟩ := hcut; cases kq with
        | zero => exact absurd HA.out (by simp [K3.j3])
        | succ Ie =>
         have H := HA.out; clear HA; simp only [K3.j3] at H; by_cases Q6 : LY = true
         ·subst Q6; have H1 : (if EH = true then ((YC.f N1 0 127).bind fun t105 => (some t105)) else (some false)) = some r := by rw [if_pos rfl] at H; exact H
          clear H; have H := H1; clear H1; by_cases J9 : EH = true; rotate_left
          ·replace J9 := Bool.eq_false_iff.mpr J9; subst J9; have H1 : (some false) = some r := by rw [if_neg (show ¬ (false = true) by decide)] at H; exact H
           clear H; have H := H1; clear H1; obtain rfl := Option.some.inj H; go_wp2; go_ret; exact ⟨by rfl, S0 H0 I.out⟩
          subst J9; have H1 : ((YC.f N1 0 127).bind fun t105 => (some t105)) = some r := by rw [if_pos rfl] at H; exact H
          clear H; have H := H1; clear H1; replace H := L2 H; obtain ⟨t105, aa3, H⟩ := H; have A29 := am aa3; clear aa3; obtain rfl := Option.some.inj H; obtain ⟨vT, kT, lU, uW, Yb, Xc, dU, bS, mT, KX, Nf, Cf⟩ := S1 Y.out; go_wp2_with ((go_at_call 58; (with_reducible refine (YC.calls N1 0 127 t105 _ A29.out).mono ?_); rintro e w' ⟨rfl, ⟨nd, rfl⟩⟩)); go_ret; exact ⟨by rfl, S0 H0 I.out⟩
         replace Q6 := Bool.eq_false_iff.mpr Q6; subst Q6; have H1 : (if C0 = 12 then (K3.j4 Ie EH oI C0 (C0 == 12) I0 C0 i1 X0 N1 Z0) else (K3.j4 Ie EH oI C0 (C0 == 13) I0 C0 i1 X0 N1 Z0)) = some r := by rw [if_neg (show ¬ (false = true) by decide)] at H; exact H
         clear H; have H := H1; clear H1; have AI := am H; clear H; go_upto_if 50 with (fail)
         go_cut [50] (fun v50 wc => ∃ (kq : Nat) (OW : Bool), v50 = .bool OW ∧ Aside0 (K3.j4 kq EH oI C0 OW I0 C0 i1 X0 N1 Z0 = some r) ∧ Aside0 (kq ≤ Ie) ∧ Aside0 (wc.heap[n0]? = some (.cells #[.int .i64 I0, .int .i64 C0, .int .i64 i1, .int .i64 X0, .int .i64 N1, .string Z0] 28 (0, 0))) ∧ Aside0 (Below w.heap.size w wc))
         case first =>
          have H := AI.out; clear AI; by_cases o9 : C0 = 12; rotate_left
          ·rw [if_neg o9] at H; have PI : (C0 == 12) = false := beq_eq_false_iff_ne.mpr o9; have iY : (C0 != 12) = true := bne_iff_ne.mpr o9; (rw [PI]); have H' := am H; clear H; go_wp2; go_meet
           case rel => exact ⟨_, ((C0 == 13)), (by rfl), H', ⟨by have := UB.out; have := xF.out; have := Xb.out; have := Ht.out; omega⟩, ⟨bq Y.out⟩, ⟨S0 H0 I.out⟩⟩
          rw [if_pos o9] at H; have PI : (C0 == 12) = true := beq_iff_eq.mpr o9; have iY : (C0 != 12) = false := bne_eq_false_iff_eq.mpr o9; clear o9; (rw [PI]); have H' := am H; clear H; go_wp2; go_meet
          case rel => exact ⟨_, ((C0 == 12)), (by (simp [*]; done)), H', ⟨by have := UB.out; have := xF.out; have := Xb.out; have := Ht.out; omega⟩, ⟨bq Y.out⟩, ⟨S0 H0 I.out⟩⟩
         case rest =>
          clear AI; obtain ⟨kq, OW, rfl, HA, ZI, Y, I⟩ := hcut; cases kq with
          | zero => exact absurd HA.out (by simp [K3.j4])
          | succ DN =>
           have H := HA.out; clear HA; simp only [K3.j4] at H; by_cases NB : OW = true
           ·subst NB; have H1 : (if EH = true then (some (N1 == 0)) else (some false)) = some r := by rw [if_pos rfl] at H; exact H
            clear H; have H := H1; clear H1; by_cases TB : EH = true
            ·subst TB; have H1 : (some (N1 == 0)) = some r := by rw [if_pos rfl] at H; exact H
             clear H; have H := H1; clear H1; obtain rfl := Option.some.inj H; obtain ⟨KN, uO, xN, UO, NO, IN, LN, QN, AO, pO, OO, yO⟩ := S1 Y.out; go_wp2; go_ret; exact ⟨by rfl, S0 H0 I.out⟩
            replace TB := Bool.eq_false_iff.mpr TB; subst TB; have H1 : (some false) = some r := by rw [if_neg (show ¬ (false = true) by decide)] at H; exact H
            clear H; have H := H1; clear H1; obtain rfl := Option.some.inj H; go_wp2; go_ret; exact ⟨by rfl, S0 H0 I.out⟩
           replace NB := Bool.eq_false_iff.mpr NB; subst NB; have H1 : (if C0 = 15 then (if oI = true then (if X0 = 240 then (some true) else (some (X0 == 247))) else (some false)) else (if C0 = 16 then (if oI = true then ((YC.f X0 0 127).bind fun t106 => (some t106)) else (some false)) else (some false))) = some r := by rw [if_neg (show ¬ (false = true) by decide)] at H; exact H
           clear H; have H := H1; clear H1; by_cases X9 : C0 = 15
           ·rw [if_pos X9] at H; have YP : (C0 == 15) = true := beq_iff_eq.mpr X9; have UT : (C0 != 15) = false := bne_eq_false_iff_eq.mpr X9; clear X9; by_cases rF : oI = true; rotate_left
            ·replace rF := Bool.eq_false_iff.mpr rF; subst rF; have H1 : (some false) = some r := by rw [if_neg (show ¬ (false = true) by decide)] at H; exact H
             clear H; have H := H1; clear H1; obtain rfl := Option.some.inj H; go_wp2; go_ret; exact ⟨by rfl, S0 H0 I.out⟩
            subst rF; have H1 : (if X0 = 240 then (some true) else (some (X0 == 247))) = some r := by rw [if_pos rfl] at H; exact H
            clear H; have H := H1; clear H1; by_cases DC : X0 = 240; rotate_left
            ·rw [if_neg DC] at H; have At : (X0 == 240) = false := beq_eq_false_iff_ne.mpr DC; have ck4 : (X0 != 240) = true := bne_iff_ne.mpr DC; obtain rfl := Option.some.inj H; obtain ⟨NX, mW, JW, Yr, Po, Xr, aW, oY, YW, Hu, Zx, Qw⟩ := S1 Y.out; go_wp2; go_ret; exact ⟨by rfl, S0 H0 I.out⟩
            rw [if_pos DC] at H; have At : (X0 == 240) = true := beq_iff_eq.mpr DC; have ck4 : (X0 != 240) = false := bne_eq_false_iff_eq.mpr DC; clear DC; obtain rfl := Option.some.inj H; obtain ⟨Oz, Vr, Tv, au4, ay1, cg8, ab4, Cr, Qp, bc2, bd2, ca0⟩ := S1 Y.out; go_wp2; go_ret; exact ⟨by rfl, S0 H0 I.out⟩
           rw [if_neg X9] at H; have YP : (C0 == 15) = false := beq_eq_false_iff_ne.mpr X9; have UT : (C0 != 15) = true := bne_iff_ne.mpr X9; by_cases eD : C0 = 16; rotate_left
           ·rw [if_neg eD] at H; have Na : (C0 == 16) = false := beq_eq_false_iff_ne.mpr eD; have Fg : (C0 != 16) = true := bne_iff_ne.mpr eD; obtain rfl := Option.some.inj H; go_wp2; go_ret; exact ⟨by rfl, S0 H0 I.out⟩
           rw [if_pos eD] at H; have Na : (C0 == 16) = true := beq_iff_eq.mpr eD; have Fg : (C0 != 16) = false := bne_eq_false_iff_eq.mpr eD; clear eD; by_cases FA : oI = true; rotate_left
           ·replace FA := Bool.eq_false_iff.mpr FA; subst FA; have H1 : (some false) = some r := by rw [if_neg (show ¬ (false = true) by decide)] at H; exact H
            clear H; have H := H1; clear H1; obtain rfl := Option.some.inj H; go_wp2; go_ret; exact ⟨by rfl, S0 H0 I.out⟩
           subst FA; have H1 : ((YC.f X0 0 127).bind fun t106 => (some t106)) = some r := by rw [if_pos rfl] at H; exact H
           clear H; have H := H1; clear H1; replace H := L2 H; obtain ⟨t106, eT, H⟩ := H; have Bg := am eT; clear eT; obtain rfl := Option.some.inj H; obtain ⟨OX, nX, hX, Ah, Hd, Kj, VW, LX, DV, YZ, Ra, Uj⟩ := S1 Y.out; go_wp2_with ((go_at_call 58; (with_reducible refine (YC.calls X0 0 127 t106 _ Bg.out).mono ?_); rintro e w' ⟨rfl, ⟨nd, rfl⟩⟩)); go_ret; exact ⟨by rfl, S0 H0 I.out⟩
def o_.part (b n : Int) : List Int := if b ≤ n then [n / b % 128 + 128] else []
def o_.num (n : Int) : List Int := o_.part 2097152 n ++ o_.part 16384 n ++ o_.part 128 n ++ [n % 128]
def o_.f (a0 : Int) : Option (List Int) := if 0 ≤ a0 then (if a0 ≤ 268435455 then (some (o_.num a0)) else (none)) else (none)
theorem Cl : (Try.prog.info? 5).map (fun i => (i.zero, i.size, i.bytes)) = some (some (.int .u8 0), 1, 1) := by kernel_rfl
def An (base Bn Bo : Nat) (n : Int) (xs : List Value) (w w' : World) : Prop :=
 ∃ v : Value, w'.heap[Bo]? = some (.cells #[v] 39 (0, 0)) ∧ w'.heap[Bn]? = some (.cells #[.int .i64 n] 3 (0, 0)) ∧ w'.ownsRow base 5 1 v xs.length xs ∧ v.ownBlock ≠ some Bo ∧ v.ownBlock ≠ some Bn ∧ Below base w w' ∧ base ≤ w'.heap.size
theorem cn2 {n : Int} {Bn Bo base gg cap : Nat} {v : Value} {xs : List Value} {w w1 : World} {x : Value}
 (hN : w.heap[Bn]? = some (.cells #[.int .i64 n] 3 (0, 0))) (hO : w.heap[Bo]? = some (.cells #[v] 39 (0, 0))) (G7 : base ≤ w.heap.size) (sU : base ≤ Bo) (G_ : w.ownsRow base 5 1 v xs.length xs)
 (ao : v.ownBlock ≠ some Bo) (an : v.ownBlock ≠ some Bn) (AH : Bn ≠ Bo)
 (cL : w1.ownsRow base 5 1 (.slice (some ⟨gg, 0, none⟩) (xs.length + 1) cap) (xs.length + 1) (xs ++ [x]))
 (ON : (w.alloc (.cells #[x] 5)).drew.grownBy w1 v.ownBlock) (O1 : v.ownBlock = some gg ∨ gg = w.heap.size + 1) :
 An base Bn Bo n (xs ++ [x]) w (w1.setCell ⟨Bo, 0, none⟩ (.slice (some ⟨gg, 0, none⟩) (xs.length + 1) cap)) := by
 have lo := lt_of_block hO
 have ln := lt_of_block hN
 have gO : gg ≠ Bo := by
  rcases O1 with h | h
  ·intro e; exact ao (by rw [h, e])
  ·omega
 have gN : gg ≠ Bn := by
  rcases O1 with h | h
  ·intro e; exact an (by rw [h, e])
  ·omega
 have bO1 : w1.heap[Bo]? = some (.cells #[v] 39 (0, 0)) := by
  rw [ON.block Bo (by simp; omega) (Ne.symm ao)]
  exact (Below.heap_alloc _ _ _ lo).trans hO
 have bN1 : w1.heap[Bn]? = some (.cells #[.int .i64 n] 3 (0, 0)) := by
  rw [ON.block Bn (by simp; omega) (Ne.symm an)]
  exact (Below.heap_alloc _ _ _ ln).trans hN
 have rT : Below base w w1 := (((Below.refl base w).alloc G7 _).drew).grown ON (by simp; omega) (fun k X => VM G_ k X)
 refine ⟨.slice (some ⟨gg, 0, none⟩) (xs.length + 1) cap, one_setCell bO1, ?_, ?_, ?_, ?_, ?_, ?_⟩
 ·rw [Below.heap_setCell _ _ _ _ AH]; exact bN1
 ·simpa using ownsRow_setCell_other cL (a := ⟨Bo, 0, none⟩) (by simpa [Value.ownBlock] using gO) _
 ·simpa [Value.ownBlock] using gO
 ·simpa [Value.ownBlock] using gN
 ·exact rT.setCell (p := ⟨Bo, 0, none⟩) sU _
 ·have := rT.size; simp; omega
set_option maxRecDepth 100000 in
set_option maxHeartbeats 1600000 in
theorem cp3 (b n : Int) (Bn Bo base : Nat) (v : Value) (xs : List Value) (w : World) (IA : 1 ≤ b) (lE : b ≤ 2097152) (gL : 0 ≤ n) (uJ : n ≤ 268435455) (TO : b ≤ n)
 (hN : w.heap[Bn]? = some (.cells #[.int .i64 n] 3 (0, 0))) (hO : w.heap[Bo]? = some (.cells #[v] 39 (0, 0)))
 (G_ : w.ownsRow base 5 1 v xs.length xs) (hlen : xs.length ≤ 1000) (G7 : base ≤ w.heap.size)
 (ao : v.ownBlock ≠ some Bo) (an : v.ownBlock ≠ some Bn) (AH : Bn ≠ Bo) (sU : base ≤ Bo) :
 Calls Try.prog 59 #[.int .i64 b, .pointer (some ⟨Bn, 0, none⟩), .pointer (some ⟨Bo, 0, none⟩)] w fun e w' => e = .returned (.tuple #[]) ∧ An base Bn Bo n (xs ++ [.int .u8 (n / b % 128 + 128)]) w w' := by
 obtain ⟨i0, Fo, sF, eG, ND⟩ := info_parts Cl
 have lo := lt_of_block hO
 have ln := lt_of_block hN
 have cN := cell_of_one hN
 have cO := cell_of_one hO
 have fO := free_of_one hO
 have hd : decide (b ≤ n) = true := decide_eq_true TO
 have FT : 0 ≤ n / b := Int.ediv_nonneg gL (by omega)
 have hm0 : 0 ≤ n / b % 128 := Int.emod_nonneg _ (by decide)
 have hm1 : n / b % 128 < 128 := Int.emod_lt_of_pos _ (by decide)
 have Ip : IntKind.i64.wrap (n / b % 128 + 128) = n / b % 128 + 128 := IntWalk.i64_in _ (by omega)
 have Ik : IntKind.u8.wrap (n / b % 128 + 128) = n / b % 128 + 128 := by rw [IntKind.wrap, if_neg (by simp [IntKind.signed])]; simp [IntKind.bits]; omega
 have Bt : (n / b).tmod 128 = n / b % 128 := Int.tmod_eq_emod_of_nonneg FT
 have hs4 : IntKind.i64.wrap (n.tdiv b) = n / b := by rw [Int.tdiv_eq_ediv_of_nonneg gL]; exact IntWalk.i64_in _ (by have := Int.ediv_le_self b gL; omega)
 have hbz : (b == 0) = false := beq_eq_false_iff_ne.mpr (by omega)
 have fo7 : ¬ b = 0 := by omega
 go_enter Try.func59, Try.ntmps59
 go_wp2_with fail
 go_region_law (refine step_append_lies _ (by rfl) _ _ _ (by rfl) base 5 i0 _ 1 1 Try.underlying39 Fo sF eG ND rfl (by omega) v xs.length xs (by rfl) ((G_.alloc _).drew) ⟨w.heap.size, 0, none⟩ 1 1 [.int .u8 (n / b % 128 + 128)] (by rfl) (by rfl) (World.news_of_block (heap_alloc_new w _)) (by simp [Value.oneCell']) (by omega) (by unfold maxLen; omega) (by omega) (by simp; omega) (w.heap.size + 1) (by simp) ?_; intro gg cap w1 cL ON O1 l4; have c1 : w1.cell? ⟨Bo, 0, none⟩ = some v := (by rw [ON.cell_far _ (by simp; omega) (by simpa using Ne.symm ao)]; exact (World.cell?_alloc_lt _ _ _ lo).trans cO); have f1 : w1.frozen? ⟨Bo, 0, none⟩ = false := (by rw [ON.frozen_far _ (by simp; omega) (by simpa using Ne.symm ao)]; exact (frozen?_alloc_cells _ _ _ _).trans fO))
 all_goals
  refine bodyPost_end (results_none rfl _ _ _) rfl ?_
  exact ⟨rfl, cn2 hN hO G7 sU G_ ao an AH cL ON O1⟩
set_option maxRecDepth 100000 in
theorem cs4 (b n : Int) (Bn Bo : Nat) (w : World) (TO : n < b)
 (hN : w.heap[Bn]? = some (.cells #[.int .i64 n] 3 (0, 0))) :
 Calls Try.prog 59 #[.int .i64 b, .pointer (some ⟨Bn, 0, none⟩), .pointer (some ⟨Bo, 0, none⟩)] w fun e w' => e = .returned (.tuple #[]) ∧ w = w' := by
 have cN := cell_of_one hN
 have hd : decide (b ≤ n) = false := decide_eq_false (by omega)
 go_enter Try.func59, Try.ntmps59
 go_wp2_with fail
 go_end0
 exact ⟨rfl, rfl⟩
def dF (b n : Int) : List Value := if b ≤ n then [.int .u8 (n / b % 128 + 128)] else []
theorem Rk (b n : Int) : (dF b n).length ≤ 1 := by unfold dF; split <;> simp
theorem Xk (b n : Int) (Bn Bo base : Nat) (v : Value) (xs : List Value) (w : World) (IA : 1 ≤ b) (lE : b ≤ 2097152) (gL : 0 ≤ n) (uJ : n ≤ 268435455)
 (hN : w.heap[Bn]? = some (.cells #[.int .i64 n] 3 (0, 0))) (hO : w.heap[Bo]? = some (.cells #[v] 39 (0, 0)))
 (G_ : w.ownsRow base 5 1 v xs.length xs) (hlen : xs.length ≤ 1000) (G7 : base ≤ w.heap.size)
 (ao : v.ownBlock ≠ some Bo) (an : v.ownBlock ≠ some Bn) (AH : Bn ≠ Bo) (sU : base ≤ Bo) :
 Calls Try.prog 59 #[.int .i64 b, .pointer (some ⟨Bn, 0, none⟩), .pointer (some ⟨Bo, 0, none⟩)] w fun e w' => e = .returned (.tuple #[]) ∧ An base Bn Bo n (xs ++ dF b n) w w' := by
 by_cases h : b ≤ n
 ·unfold dF
  rw [if_pos h]
  exact cp3 b n Bn Bo base v xs w IA lE gL uJ h hN hO G_ hlen G7 ao an AH sU
 ·unfold dF
  rw [if_neg h, List.append_nil]
  refine (cs4 b n Bn Bo w (by omega) hN).mono ?_
  rintro e w' ⟨rfl, rfl⟩
  exact ⟨rfl, v, hO, hN, G_, ao, an, Below.refl _ _, G7⟩
def FZ (n : Int) : List Value := dF 2097152 n ++ dF 16384 n ++ dF 128 n ++ [Value.int .u8 (n % 128)]
set_option maxRecDepth 100000 in
set_option maxHeartbeats 1600000 in
theorem cw4 (n : Int) (w : World) (gL : 0 ≤ n) (uJ : n ≤ 268435455) :
 Calls Try.prog 36 #[.int .i64 n] w fun e w' => ∃ v, e = .returned v ∧ w'.ownsRow w.heap.size 5 1 v (FZ n).length (FZ n) ∧ Below w.heap.size w w' := by
 obtain ⟨i0, Fo, sF, eG, ND⟩ := info_parts Cl
 have hl1 := Rk 2097152 n
 have RC := Rk 16384 n
 have hl3 := Rk 128 n
 have hm1 : 0 ≤ n % 128 := Int.emod_nonneg _ (by decide)
 have hm2 : n % 128 < 128 := Int.emod_lt_of_pos _ (by decide)
 have Ik : IntKind.u8.wrap (n % 128) = n % 128 := by rw [IntKind.wrap, if_neg (by simp [IntKind.signed])]; simp [IntKind.bits]; omega
 have ed9 : n % 128 % 256 = n % 128 := by omega
 go_enter Try.func36, Try.ntmps36
 go_wp2_with fail
 refine (Xk 2097152 n w.heap.size (w.heap.size + 1) w.heap.size (.slice none 0 0) [] _ (by omega) (by omega) gL uJ ?n1 ?o1 (aj4 _ _ _ _) (by simp) (by simp; omega) (by simp [Value.ownBlock]) (by simp [Value.ownBlock]) (by omega) (by omega)).mono ?_
 case n1 => rw [Below.heap_alloc _ _ _ (by simp)]; exact heap_alloc_new w _
 case o1 => simpa using heap_alloc_new (w.alloc (.cells #[.int .i64 n] 3)) (.cells #[.slice none 0 0] 39)
 rintro e w1 ⟨rfl, v1, hO1, hN1, oL, ao1, an1, rT, Ip⟩
 rw [List.nil_append] at oL
 have fW : Hid (Below w.heap.size w w1) := Lib.hid ((((Below.refl _ w).alloc (Nat.le_refl _) _).alloc (by simp) _).trans rT)
 clear rT
 go_wp2_with fail
 refine (Xk 16384 n w.heap.size (w.heap.size + 1) w.heap.size v1 (dF 2097152 n) _ (by omega) (by omega) gL uJ hN1 hO1 oL (by omega) Ip ao1 an1 (by omega) (by omega)).mono ?_
 rintro e w2 ⟨rfl, v2, hO2, hN2, KH, ao2, an2, Yt, Ik⟩
 have bV : Hid (Below w.heap.size w w2) := Lib.hid (fW.out.trans Yt)
 clear Yt
 go_wp2_with fail
 refine (Xk 128 n w.heap.size (w.heap.size + 1) w.heap.size v2 (dF 2097152 n ++ dF 16384 n) _ (by omega) (by omega) gL uJ hN2 hO2 KH (by simp; omega) Ik ao2 an2 (by omega) (by omega)).mono ?_
 rintro e w3 ⟨rfl, v3, hO3, hN3, eM, ao3, an3, hB3, Bt⟩
 have UQ : Hid (Below w.heap.size w w3) := Lib.hid (bV.out.trans hB3)
 clear hB3
 have cN := cell_of_one hN3
 have cO := cell_of_one hO3
 go_wp2_with (at_builtin; go_loud (refine cx3 (w0 := w) w.heap.size rfl (.tmp 12) (.tmp 16) 39 5 (.int .u8 0) 1 rfl Try.underlying39 Cl rfl (by decide) v3 (dF 2097152 n ++ dF 16384 n ++ dF 128 n) (.int .u8 (n % 128)) rfl rfl rfl ?aO ?aB ?aS ?aL ?_); (case aO => exact eM); (case aB => exact UQ.out); (case aS => exact Bt); (case aL => (simp; omega)); intro v4 w4 ho4 hb4 _ _)
 go_ret
 exact ⟨v4, rfl, ho4, hb4⟩
theorem Nm (b n : Int) : dF b n = BC .u8 (o_.part b n) := by
 unfold dF o_.part BC
 split <;> simp
theorem cy8 (n : Int) : FZ n = BC .u8 (o_.num n) := by
 unfold FZ o_.num
 rw [BV, BV, BV, Nm, Nm, Nm]
 rfl
theorem o_.calls (a0 : Int) (r : List Int) (w : World) (h : o_.f a0 = some r) :
 Calls Try.prog 36 #[.int .i64 a0] w fun e w' => ∃ jM : Value, e = .returned (jM) ∧ Kd.R (Kd.int .u8) 5 w' w.heap.size (fun _ => True) jM r ∧ Below w.heap.size w w' := by
 unfold o_.f at h; by_cases h0 : 0 ≤ a0
 ·by_cases h1 : a0 ≤ 268435455
  ·rw [if_pos h0, if_pos h1] at h; obtain rfl := Option.some.inj h; refine (cw4 a0 w h0 h1).mono ?_; rintro e w' ⟨v, rfl, ho, G⟩; rw [cy8, Vm] at ho; exact ⟨v, rfl, Kd.bR (enc := Value.int .u8) (h1 := fun _ => rfl) (ok := fun _ => True) ho (fun _ _ => trivial), G⟩
  ·rw [if_pos h0, if_neg h1] at h; cases h
 ·rw [if_neg h0] at h; cases h
def JC.f (a0 : Int) : Option (Bool) := if a0 = 12 then (some true) else (some (a0 == 13))
set_option maxHeartbeats 8000000 in
set_option maxRecDepth 100000 in
theorem JC.calls (a0 : Int) (r : Bool) (w : World) (h : JC.f a0 = some r) :
 Calls Try.prog 37 #[.int .i64 a0] w fun e w' => e = .returned (.bool r) ∧ E_ w w' := by
 have H := h; unfold JC.f at H; clear h; by_cases c2 : a0 = 12
 ·rw [if_pos c2] at H; have G9 : (a0 == 12) = true := beq_iff_eq.mpr c2; have oE : (a0 != 12) = false := bne_eq_false_iff_eq.mpr c2; clear c2; obtain rfl := Option.some.inj H; go_enter Try.func37, Try.ntmps37; go_wp2; go_ret; exact ⟨o6, F5⟩
 ·rw [if_neg c2] at H; have G9 : (a0 == 12) = false := beq_eq_false_iff_ne.mpr c2; have oE : (a0 != 12) = true := bne_iff_ne.mpr c2; obtain rfl := Option.some.inj H; go_enter Try.func37, Try.ntmps37; go_wp2; go_ret; exact ⟨o6, F5⟩
def z5.l0 : Nat → List Int → Int → List (N0) → Int → Int → Option (ByteArray × Int)
 | 0, _, _, _, _, _ => none
 | k + 1, x4, x5, x9, mK, b7 => if b7 < mK then (if 0 ≤ b7 then (if b7 < (x9.length : Int) then ((K3.f k ((U x9 b7).f0) ((U x9 b7).f1) ((U x9 b7).f2) ((U x9 b7).f3) ((U x9 b7).f4) ((U x9 b7).f5)).bind fun t103 => (if t103 = true then ((o_.f ((U x9 b7).f0)).bind fun t104 => (if x4.length + t104.length < 140737488355328 then ((some (x4 ++ t104 : List Int)).bind fun R3 => (if ((U x9 b7).f1) = 16 then (if R3.length < 140737488355328 then ((some (R3 ++ [255] : List Int)).bind fun V4 => (if V4.length < 140737488355328 then ((some (V4 ++ [((U x9 b7).f3) % 256] : List Int)).bind fun eA => ((o_.f (((U x9 b7).f5).size : Int)).bind fun J4 => (if eA.length + J4.length < 140737488355328 then ((some (eA ++ J4 : List Int)).bind fun gA => (if gA.length + ((U x9 b7).f5).size < 140737488355328 then (z5.l0 k (gA ++ bytesOf ((U x9 b7).f5)) 0 x9 mK (wrap64 (b7 + 1))) else (none))) else (none)))) else (none))) else (none)) else (if ((U x9 b7).f1) = 15 then (if R3.length < 140737488355328 then ((some (R3 ++ [((U x9 b7).f3) % 256] : List Int)).bind fun dG => ((o_.f (((U x9 b7).f5).size : Int)).bind fun g_ => (if dG.length + g_.length < 140737488355328 then ((some (dG ++ g_ : List Int)).bind fun rE => (if rE.length + ((U x9 b7).f5).size < 140737488355328 then (z5.l0 k (rE ++ bytesOf ((U x9 b7).f5)) 0 x9 mK (wrap64 (b7 + 1))) else (none))) else (none)))) else (none)) else (if (wrap64 ((wrap64 (16 * ((U x9 b7).f1))) + ((U x9 b7).f2))) = x5 then (if R3.length < 140737488355328 then ((some (R3 ++ [((U x9 b7).f3) % 256] : List Int)).bind fun EC => ((JC.f ((U x9 b7).f1)).bind fun CK => (if CK = true then (z5.l0 k EC (wrap64 ((wrap64 (16 * ((U x9 b7).f1))) + ((U x9 b7).f2))) x9 mK (wrap64 (b7 + 1))) else (if EC.length < 140737488355328 then (z5.l0 k (EC ++ [((U x9 b7).f4) % 256]) (wrap64 ((wrap64 (16 * ((U x9 b7).f1))) + ((U x9 b7).f2))) x9 mK (wrap64 (b7 + 1))) else (none))))) else (none)) else (if R3.length < 140737488355328 then ((some (R3 ++ [(wrap64 ((wrap64 (16 * ((U x9 b7).f1))) + ((U x9 b7).f2))) % 256] : List Int)).bind fun yF => (if yF.length < 140737488355328 then ((some (yF ++ [((U x9 b7).f3) % 256] : List Int)).bind fun mB => ((JC.f ((U x9 b7).f1)).bind fun yC => (if yC = true then (z5.l0 k mB (wrap64 ((wrap64 (16 * ((U x9 b7).f1))) + ((U x9 b7).f2))) x9 mK (wrap64 (b7 + 1))) else (if mB.length < 140737488355328 then (z5.l0 k (mB ++ [((U x9 b7).f4) % 256]) (wrap64 ((wrap64 (16 * ((U x9 b7).f1))) + ((U x9 b7).f2))) x9 mK (wrap64 (b7 + 1))) else (none))))) else (none))) else (none)))))) else (none))) else (some ((⟨#[]⟩ : ByteArray), 151)))) else (none)) else (none)) else (some (strOfNums x4, 0))
def z5.f (k : Nat) (l0 : List (N0)) : Option (ByteArray × Int) := z5.l0 k ([] : List Int) 0 l0 (l0.length : Int) 0
theorem z5.mono_l : ∀ k, (∀ y0 y1 y2 y3 y4, F0 (z5.l0 k y0 y1 y2 y3 y4) (z5.l0 (k + 1) y0 y1 y2 y3 y4))
 | 0 => fun _ _ _ _ _ r h => by simp [z5.l0] at h
 | k + 1 => by
  have O2 := z5.mono_l k
  ·intro y0 y1 y2 y3 y4
   unfold z5.l0
   repeat' with_reducible first
    | apply O2
    | apply K3.mono
    | apply F0.refl
    | refine F0.ite ?_ ?_
    | refine F0.bind ?_ (fun _ => ?_)
theorem z5.mono : ∀ a0 k, F0 (z5.f k a0) (z5.f (k + 1) a0) := by
 intro a0 k
 have O2 := z5.mono_l k
 unfold z5.f
 repeat' with_reducible first
  | apply O2
set_option maxHeartbeats 8000000 in
set_option maxRecDepth 100000 in
theorem z5.calls (k : Nat) (A0 : Option Addr) (c0 : Nat) (l0 : List (N0)) (r1 : ByteArray) (r2 : Int) (w : World) (oB : Kd.C L3 w A0 l0.length l0) (i_ : l0.length ≤ c0) (h : z5.f k l0 = some (r1, r2)) :
 Calls Try.prog 22 #[.slice A0 l0.length c0] w fun e w' => e = .returned (.tuple #[.string r1, .int .i64 r2]) ∧ Below w.heap.size w w' := by
 have WB := Try.underlying28; have J_ := am oB; have FJ := am i_; clear oB i_; have I := am (Below.refl w.heap.size w); have H := h; unfold z5.f at H; clear h; have H' := am H; clear H; go_enter Try.func22, Try.ntmps22; go_wp2; go_loopg [4, 5, 11] k (fun kq v4 v5 v11 w' => ∃ (V0 : List Int) (E0 : Int) (D0 : Int), v5 = .int .i64 E0 ∧ v11 = .int .i64 D0 ∧ Aside0 (z5.l0 kq V0 E0 l0 (l0.length : Int) D0 = some (r1, r2)) ∧ Aside0 (kq ≤ k) ∧ Aside0 (Kd.R (Kd.int .u8) 5 w' w.heap.size (fun _ => True) v4 V0) ∧ Aside0 (Below w.heap.size w w'))
 case atStart => exact ⟨(([] : List Int)), (0), (0), (by rfl), (by rfl), H', ⟨Nat.le_refl _⟩, ⟨by exact Kd.fI _ _ _ _ _⟩, ⟨qB I.out⟩⟩
 case round =>
  clear H'; obtain ⟨V0, E0, D0, rfl, rfl, HA, S4, I5, I⟩ := hrel; cases gk with
  | zero => exact absurd HA.out (by simp [z5.l0])
  | succ k1 =>
   have H := HA.out; clear HA; simp only [z5.l0] at H; by_cases c2 : D0 < (l0.length : Int); rotate_left
   ·rw [if_neg c2] at H; have G9 : decide (D0 < (l0.length : Int)) = false := decide_eq_false c2; clear c2; simp only [Option.some.injEq, Prod.mk.injEq] at H; obtain ⟨rfl, rfl⟩ := H; have dr0 := vL (P := Try.prog) Try.underlying39 Try.underlying5 Try.underlying9 (Kd.yG I5.out); go_wp2; go_ret2; exact ⟨by rfl, qB I.out⟩
   rw [if_pos c2] at H; have G9 : decide (D0 < (l0.length : Int)) = true := decide_eq_true c2; clear c2; by_cases c3 : 0 ≤ D0; rotate_left
   ·rw [if_neg c3] at H; exact absurd H (by simp)
   rw [if_pos c3] at H; have S8 : decide (0 ≤ D0) = true := decide_eq_true c3; clear c3; by_cases c4 : D0 < (l0.length : Int); rotate_left
   ·rw [if_neg c4] at H; exact absurd H (by simp)
   rw [if_pos c4] at H; have T7 : decide (D0 < (l0.length : Int)) = true := decide_eq_true c4; clear c4; replace H := L2 H; obtain ⟨t103, v_, H⟩ := H; have A5 := am v_; clear v_; by_cases c6 : t103 = true; rotate_left
   ·replace c6 := Bool.eq_false_iff.mpr c6; subst c6; have H1 : (some ((⟨#[]⟩ : ByteArray), 151)) = some (r1, r2) := by rw [if_neg (show ¬ (false = true) by decide)] at H; exact H
    clear H; have H := H1; clear H1; simp only [Option.some.injEq, Prod.mk.injEq] at H; obtain ⟨rfl, rfl⟩ := H; have N4 : 0 ≤ (D0 : Int) := of_decide_eq_true R1; have M4 : D0 < (l0.length : Int) := of_decide_eq_true R1; obtain ⟨P6, H9, F7, S7, Q7, P7, R7, U7⟩ := jA J_.out D0 N4 M4; cases H9; replace F7 := W0 I.out F7; replace S7 := W0 I.out S7; replace Q7 := W0 I.out Q7; replace P7 := W0 I.out P7; replace R7 := W0 I.out R7; replace U7 := W0 I.out U7; replace N4 := eq_true N4; replace M4 := eq_true M4; go_wp2_with (first | ((with_reducible refine P2 (N := 7) rfl ?_); refine D3 ?hg (N := 7) ?hd (cs := #[.int .i64 0, .int .i64 0, .int .i64 0, .int .i64 0, .int .i64 0, .string (⟨#[]⟩ : ByteArray)]) (t := 28) ?hr ?_; (case hd => rfl); (case hg => rfl); (case hr => exact Z2); intro K0 hg ec5 M0 G; replace I5 := am (Kd.j7 (qR I5.out) G); have o0 := am (M0); have YA := am ((U2 : w.heap.size ≤ K0)); have Q0 := am ((U2 : w.heap.size ≤ K0)); replace I := am (T0 (qB I.out) G); clear G M0 hg; obtain ⟨dd7, di5, ep5, fe7, ea7, ew4, dq3, eq8, df3, di7, fi3, dn9⟩ := S1 o0.out) | ((with_reducible refine H2 (f := 35) rfl ?_); refine G2 (some 16) rfl rfl Try.func35 (by kernel_rfl) rfl #[.agg #[.int .i64 ((U l0 D0).f0), .int .i64 ((U l0 D0).f1), .int .i64 ((U l0 D0).f2), .int .i64 ((U l0 D0).f3), .int .i64 ((U l0 D0).f4), .string ((U l0 D0).f5)]] rfl F2 ?_; (with_reducible refine (K3.calls k1 ((U l0 D0).f0) ((U l0 D0).f1) ((U l0 D0).f2) ((U l0 D0).f3) ((U l0 D0).f4) ((U l0 D0).f5) false _ A5.out).mono ?_); rintro e ek9 ⟨rfl, G⟩; refine ⟨_, rfl, ?_⟩; replace I5 := am (Kd.j7 qP G); replace o0 := am (O0 (g := K0) (o := .cells #[.int .i64 ((U l0 D0).f0), .int .i64 ((U l0 D0).f1), .int .i64 ((U l0 D0).f2), .int .i64 ((U l0 D0).f3), .int .i64 ((U l0 D0).f4), .string ((U l0 D0).f5)] 28 (0, 0)) (by refine bq ?_; refine J0 (cs := #[.int .i64 ((U l0 D0).f0), .int .i64 ((U l0 D0).f1), .int .i64 ((U l0 D0).f2), .int .i64 ((U l0 D0).f3), .int .i64 ((U l0 D0).f4), .string (⟨#[]⟩ : ByteArray)]) ?_ 5 _ rfl; refine bq ?_; refine J0 (cs := #[.int .i64 ((U l0 D0).f0), .int .i64 ((U l0 D0).f1), .int .i64 ((U l0 D0).f2), .int .i64 ((U l0 D0).f3), .int .i64 0, .string (⟨#[]⟩ : ByteArray)]) ?_ 4 _ rfl; refine bq ?_; refine J0 (cs := #[.int .i64 ((U l0 D0).f0), .int .i64 ((U l0 D0).f1), .int .i64 ((U l0 D0).f2), .int .i64 0, .int .i64 0, .string (⟨#[]⟩ : ByteArray)]) ?_ 3 _ rfl; refine bq ?_; refine J0 (cs := #[.int .i64 ((U l0 D0).f0), .int .i64 ((U l0 D0).f1), .int .i64 0, .int .i64 0, .int .i64 0, .string (⟨#[]⟩ : ByteArray)]) ?_ 2 _ rfl; refine bq ?_; refine J0 (cs := #[.int .i64 ((U l0 D0).f0), .int .i64 0, .int .i64 0, .int .i64 0, .int .i64 0, .string (⟨#[]⟩ : ByteArray)]) ?_ 1 _ rfl; refine bq ?_; refine J0 (cs := #[.int .i64 0, .int .i64 0, .int .i64 0, .int .i64 0, .int .i64 0, .string (⟨#[]⟩ : ByteArray)]) ?_ 0 _ rfl; exact bq o0.out) G); replace I := am (T0 (S0 Q0 I.out) G); )); go_ret2; exact ⟨by rfl, S0 Q0 I.out⟩
   subst c6; have H1 : ((o_.f ((U l0 D0).f0)).bind fun t104 => (if V0.length + t104.length < 140737488355328 then ((some (V0 ++ t104 : List Int)).bind fun R3 => (if ((U l0 D0).f1) = 16 then (if R3.length < 140737488355328 then ((some (R3 ++ [255] : List Int)).bind fun V4 => (if V4.length < 140737488355328 then ((some (V4 ++ [((U l0 D0).f3) % 256] : List Int)).bind fun eA => ((o_.f (((U l0 D0).f5).size : Int)).bind fun J4 => (if eA.length + J4.length < 140737488355328 then ((some (eA ++ J4 : List Int)).bind fun gA => (if gA.length + ((U l0 D0).f5).size < 140737488355328 then (z5.l0 k1 (gA ++ bytesOf ((U l0 D0).f5)) 0 l0 (l0.length : Int) (wrap64 (D0 + 1))) else (none))) else (none)))) else (none))) else (none)) else (if ((U l0 D0).f1) = 15 then (if R3.length < 140737488355328 then ((some (R3 ++ [((U l0 D0).f3) % 256] : List Int)).bind fun dG => ((o_.f (((U l0 D0).f5).size : Int)).bind fun g_ => (if dG.length + g_.length < 140737488355328 then ((some (dG ++ g_ : List Int)).bind fun rE => (if rE.length + ((U l0 D0).f5).size < 140737488355328 then (z5.l0 k1 (rE ++ bytesOf ((U l0 D0).f5)) 0 l0 (l0.length : Int) (wrap64 (D0 + 1))) else (none))) else (none)))) else (none)) else (if (wrap64 ((wrap64 (16 * ((U l0 D0).f1))) + ((U l0 D0).f2))) = E0 then (if R3.length < 140737488355328 then ((some (R3 ++ [((U l0 D0).f3) % 256] : List Int)).bind fun EC => ((JC.f ((U l0 D0).f1)).bind fun CK => (if CK = true then (z5.l0 k1 EC (wrap64 ((wrap64 (16 * ((U l0 D0).f1))) + ((U l0 D0).f2))) l0 (l0.length : Int) (wrap64 (D0 + 1))) else (if EC.length < 140737488355328 then (z5.l0 k1 (EC ++ [((U l0 D0).f4) % 256]) (wrap64 ((wrap64 (16 * ((U l0 D0).f1))) + ((U l0 D0).f2))) l0 (l0.length : Int) (wrap64 (D0 + 1))) else (none))))) else (none)) else (if R3.length < 140737488355328 then ((some (R3 ++ [(wrap64 ((wrap64 (16 * ((U l0 D0).f1))) + ((U l0 D0).f2))) % 256] : List Int)).bind fun yF => (if yF.length < 140737488355328 then ((some (yF ++ [((U l0 D0).f3) % 256] : List Int)).bind fun mB => ((JC.f ((U l0 D0).f1)).bind fun yC => (if yC = true then (z5.l0 k1 mB (wrap64 ((wrap64 (16 * ((U l0 D0).f1))) + ((U l0 D0).f2))) l0 (l0.length : Int) (wrap64 (D0 + 1))) else (if mB.length < 140737488355328 then (z5.l0 k1 (mB ++ [((U l0 D0).f4) % 256]) (wrap64 ((wrap64 (16 * ((U l0 D0).f1))) + ((U l0 D0).f2))) l0 (l0.length : Int) (wrap64 (D0 + 1))) else (none))))) else (none))) else (none)))))) else (none))) = some (r1, r2) := by rw [if_pos rfl] at H; exact H
   clear H; have H := H1; clear H1; replace H := L2 H; obtain ⟨t104, nI, H⟩ := H; have A7 := am nI; clear nI; by_cases c8 : V0.length + t104.length < 140737488355328; rotate_left
   ·rw [if_neg c8] at H; exact absurd H (by simp)
   rw [if_pos c8] at H; have PL := am c8; clear c8; obtain ⟨R3, FF⟩ : ∃ y_ : List Int, y_ = (V0 ++ t104) := ⟨_, rfl⟩
   replace H : (if ((U l0 D0).f1) = 16 then (if R3.length < 140737488355328 then ((some (R3 ++ [255] : List Int)).bind fun V4 => (if V4.length < 140737488355328 then ((some (V4 ++ [((U l0 D0).f3) % 256] : List Int)).bind fun eA => ((o_.f (((U l0 D0).f5).size : Int)).bind fun J4 => (if eA.length + J4.length < 140737488355328 then ((some (eA ++ J4 : List Int)).bind fun gA => (if gA.length + ((U l0 D0).f5).size < 140737488355328 then (z5.l0 k1 (gA ++ bytesOf ((U l0 D0).f5)) 0 l0 (l0.length : Int) (wrap64 (D0 + 1))) else (none))) else (none)))) else (none))) else (none)) else (if ((U l0 D0).f1) = 15 then (if R3.length < 140737488355328 then ((some (R3 ++ [((U l0 D0).f3) % 256] : List Int)).bind fun dG => ((o_.f (((U l0 D0).f5).size : Int)).bind fun g_ => (if dG.length + g_.length < 140737488355328 then ((some (dG ++ g_ : List Int)).bind fun rE => (if rE.length + ((U l0 D0).f5).size < 140737488355328 then (z5.l0 k1 (rE ++ bytesOf ((U l0 D0).f5)) 0 l0 (l0.length : Int) (wrap64 (D0 + 1))) else (none))) else (none)))) else (none)) else (if (wrap64 ((wrap64 (16 * ((U l0 D0).f1))) + ((U l0 D0).f2))) = E0 then (if R3.length < 140737488355328 then ((some (R3 ++ [((U l0 D0).f3) % 256] : List Int)).bind fun EC => ((JC.f ((U l0 D0).f1)).bind fun CK => (if CK = true then (z5.l0 k1 EC (wrap64 ((wrap64 (16 * ((U l0 D0).f1))) + ((U l0 D0).f2))) l0 (l0.length : Int) (wrap64 (D0 + 1))) else (if EC.length < 140737488355328 then (z5.l0 k1 (EC ++ [((U l0 D0).f4) % 256]) (wrap64 ((wrap64 (16 * ((U l0 D0).f1))) + ((U l0 D0).f2))) l0 (l0.length : Int) (wrap64 (D0 + 1))) else (none))))) else (none)) else (if R3.length < 140737488355328 then ((some (R3 ++ [(wrap64 ((wrap64 (16 * ((U l0 D0).f1))) + ((U l0 D0).f2))) % 256] : List Int)).bind fun yF => (if yF.length < 140737488355328 then ((some (yF ++ [((U l0 D0).f3) % 256] : List Int)).bind fun mB => ((JC.f ((U l0 D0).f1)).bind fun yC => (if yC = true then (z5.l0 k1 mB (wrap64 ((wrap64 (16 * ((U l0 D0).f1))) + ((U l0 D0).f2))) l0 (l0.length : Int) (wrap64 (D0 + 1))) else (if mB.length < 140737488355328 then (z5.l0 k1 (mB ++ [((U l0 D0).f4) % 256]) (wrap64 ((wrap64 (16 * ((U l0 D0).f1))) + ((U l0 D0).f2))) l0 (l0.length : Int) (wrap64 (D0 + 1))) else (none))))) else (none))) else (none))))) = some (r1, r2) := by (have S6 := (Option.bind_some _ _).symm.trans H; rw [FF]; with_reducible exact S6)
   have MG := am FF; clear FF; by_cases c9 : ((U l0 D0).f1) = 16
   ·rw [if_pos c9] at H; have xH : (((U l0 D0).f1) == 16) = true := beq_iff_eq.mpr c9; have JP : (((U l0 D0).f1) != 16) = false := bne_eq_false_iff_eq.mpr c9; clear c9; by_cases c10 : R3.length < 140737488355328; rotate_left
    ·rw [if_neg c10] at H; exact absurd H (by simp)
    rw [if_pos c10] at H; have aw3 := am c10; clear c10; obtain ⟨V4, LI⟩ : ∃ y_ : List Int, y_ = (R3 ++ [255]) := ⟨_, rfl⟩
    replace H : (if V4.length < 140737488355328 then ((some (V4 ++ [((U l0 D0).f3) % 256] : List Int)).bind fun eA => ((o_.f (((U l0 D0).f5).size : Int)).bind fun J4 => (if eA.length + J4.length < 140737488355328 then ((some (eA ++ J4 : List Int)).bind fun gA => (if gA.length + ((U l0 D0).f5).size < 140737488355328 then (z5.l0 k1 (gA ++ bytesOf ((U l0 D0).f5)) 0 l0 (l0.length : Int) (wrap64 (D0 + 1))) else (none))) else (none)))) else (none)) = some (r1, r2) := by (have S6 := (Option.bind_some _ _).symm.trans H; rw [LI]; with_reducible exact S6)
    have ES := am LI; clear LI; by_cases Y7 : V4.length < 140737488355328; rotate_left
    ·rw [if_neg Y7] at H; exact absurd H (by simp)
    rw [if_pos Y7] at H; have bs8 := am Y7; clear Y7; obtain ⟨eA, YN⟩ : ∃ y_ : List Int, y_ = (V4 ++ [((U l0 D0).f3) % 256]) := ⟨_, rfl⟩
    replace H : ((o_.f (((U l0 D0).f5).size : Int)).bind fun J4 => (if eA.length + J4.length < 140737488355328 then ((some (eA ++ J4 : List Int)).bind fun gA => (if gA.length + ((U l0 D0).f5).size < 140737488355328 then (z5.l0 k1 (gA ++ bytesOf ((U l0 D0).f5)) 0 l0 (l0.length : Int) (wrap64 (D0 + 1))) else (none))) else (none))) = some (r1, r2) := by (have S6 := (Option.bind_some _ _).symm.trans H; rw [YN]; with_reducible exact S6)
    have Jc := am YN; clear YN; replace H := L2 H; obtain ⟨J4, xI, H⟩ := H; have QH := am xI; clear xI; by_cases P8 : eA.length + J4.length < 140737488355328; rotate_left
    ·rw [if_neg P8] at H; exact absurd H (by simp)
    rw [if_pos P8] at H; have bk7 := am P8; clear P8; obtain ⟨gA, FO⟩ : ∃ y_ : List Int, y_ = (eA ++ J4) := ⟨_, rfl⟩
    replace H : (if gA.length + ((U l0 D0).f5).size < 140737488355328 then (z5.l0 k1 (gA ++ bytesOf ((U l0 D0).f5)) 0 l0 (l0.length : Int) (wrap64 (D0 + 1))) else (none)) = some (r1, r2) := by (have S6 := (Option.bind_some _ _).symm.trans H; rw [FO]; with_reducible exact S6)
    have Ze := am FO; clear FO; by_cases F8 : gA.length + ((U l0 D0).f5).size < 140737488355328; rotate_left
    ·rw [if_neg F8] at H; exact absurd H (by simp)
    rw [if_pos F8] at H; have cg9 := am F8; clear F8; obtain ⟨Ci, Ce⟩ : ∃ y_ : List Int, y_ = (gA ++ bytesOf ((U l0 D0).f5)) := ⟨_, rfl⟩
    replace H : (z5.l0 k1 Ci 0 l0 (l0.length : Int) (wrap64 (D0 + 1))) = some (r1, r2) := by (rw [Ce]; with_reducible exact H)
    have cc9 := am Ce; clear Ce; have H' := am H; clear H; have N4 : 0 ≤ (D0 : Int) := of_decide_eq_true R1; have M4 : D0 < (l0.length : Int) := of_decide_eq_true R1; obtain ⟨P6, H9, F7, S7, Q7, P7, R7, U7⟩ := jA J_.out D0 N4 M4; cases H9; replace F7 := W0 I.out F7; replace S7 := W0 I.out S7; replace Q7 := W0 I.out Q7; replace P7 := W0 I.out P7; replace R7 := W0 I.out R7; replace U7 := W0 I.out U7; replace N4 := eq_true N4; replace M4 := eq_true M4; go_wp2_with (first | ((with_reducible refine P2 (N := 7) rfl ?_); refine D3 ?hg (N := 7) ?hd (cs := #[.int .i64 0, .int .i64 0, .int .i64 0, .int .i64 0, .int .i64 0, .string (⟨#[]⟩ : ByteArray)]) (t := 28) ?hr ?_; (case hd => rfl); (case hg => rfl); (case hr => exact Z2); intro K0 hg FD M0 G; replace I5 := am (Kd.j7 (qR I5.out) G); have o0 := am (M0); have YA := am ((U2 : w.heap.size ≤ K0)); have Q0 := am ((U2 : w.heap.size ≤ K0)); replace I := am (T0 (qB I.out) G); clear G M0 hg; obtain ⟨dL, oK, IK, WT, CW, ZW, AK, mL, dK, SR, PV, QW⟩ := S1 o0.out) | ((with_reducible refine H2 (f := 35) rfl ?_); refine G2 (some 16) rfl rfl Try.func35 (by kernel_rfl) rfl #[.agg #[.int .i64 ((U l0 D0).f0), .int .i64 ((U l0 D0).f1), .int .i64 ((U l0 D0).f2), .int .i64 ((U l0 D0).f3), .int .i64 ((U l0 D0).f4), .string ((U l0 D0).f5)]] rfl F2 ?_; (with_reducible refine (K3.calls k1 ((U l0 D0).f0) ((U l0 D0).f1) ((U l0 D0).f2) ((U l0 D0).f3) ((U l0 D0).f4) ((U l0 D0).f5) true _ A5.out).mono ?_); rintro e E7 ⟨rfl, G⟩; refine ⟨_, rfl, ?_⟩; replace I5 := am (Kd.j7 qP G); replace o0 := am (O0 (g := K0) (o := .cells #[.int .i64 ((U l0 D0).f0), .int .i64 ((U l0 D0).f1), .int .i64 ((U l0 D0).f2), .int .i64 ((U l0 D0).f3), .int .i64 ((U l0 D0).f4), .string ((U l0 D0).f5)] 28 (0, 0)) (by refine bq ?_; refine J0 (cs := #[.int .i64 ((U l0 D0).f0), .int .i64 ((U l0 D0).f1), .int .i64 ((U l0 D0).f2), .int .i64 ((U l0 D0).f3), .int .i64 ((U l0 D0).f4), .string (⟨#[]⟩ : ByteArray)]) ?_ 5 _ rfl; refine bq ?_; refine J0 (cs := #[.int .i64 ((U l0 D0).f0), .int .i64 ((U l0 D0).f1), .int .i64 ((U l0 D0).f2), .int .i64 ((U l0 D0).f3), .int .i64 0, .string (⟨#[]⟩ : ByteArray)]) ?_ 4 _ rfl; refine bq ?_; refine J0 (cs := #[.int .i64 ((U l0 D0).f0), .int .i64 ((U l0 D0).f1), .int .i64 ((U l0 D0).f2), .int .i64 0, .int .i64 0, .string (⟨#[]⟩ : ByteArray)]) ?_ 3 _ rfl; refine bq ?_; refine J0 (cs := #[.int .i64 ((U l0 D0).f0), .int .i64 ((U l0 D0).f1), .int .i64 0, .int .i64 0, .int .i64 0, .string (⟨#[]⟩ : ByteArray)]) ?_ 2 _ rfl; refine bq ?_; refine J0 (cs := #[.int .i64 ((U l0 D0).f0), .int .i64 0, .int .i64 0, .int .i64 0, .int .i64 0, .string (⟨#[]⟩ : ByteArray)]) ?_ 1 _ rfl; refine bq ?_; refine J0 (cs := #[.int .i64 0, .int .i64 0, .int .i64 0, .int .i64 0, .int .i64 0, .string (⟨#[]⟩ : ByteArray)]) ?_ 0 _ rfl; exact bq o0.out) G); replace I := am (T0 (S0 Q0 I.out) G); obtain ⟨wN, JO, qO, uT, Fv, Ao, NN, lO, tN, nS, Hq, ab3⟩ := S1 o0.out) | ((with_reducible refine H2 (f := 36) rfl ?_); refine G2 (some 21) rfl rfl Try.func36 (by kernel_rfl) rfl #[.int .i64 ((U l0 D0).f0)] rfl F2 ?_; (with_reducible refine (o_.calls ((U l0 D0).f0) t104 _ A7.out).mono ?_); rintro e R5 ⟨yN, rfl, T3, G⟩; refine ⟨_, rfl, ?_⟩; have N5 := am (Kd.j9 (Kd.iF T3 (Kd.D_ (qR I5.out))) (S3 (S0 Q0 I.out))); replace I5 := am (Kd.kF (qR I5.out) (Kd.A_ T3) G); replace o0 := am (O0 (bq o0.out) G); replace I := am (T0 (S0 Q0 I.out) G); obtain ⟨bT, vE, jI⟩ := Kd.Q9 N5.out; subst jI) | ((with_reducible refine O_ (b := .append) (xs := #[.tmp 18, .tmp 21]) rfl ?_); at_builtin; refine Kd.jJ (Kd.int .u8) (w0 := w) w.heap.size rfl (.tmp 18) (.tmp 21) 39 5 (.int .u8 0) 1 rfl Try.underlying39 OA rfl (by decide) (by omega) u4 V0 t104 _ _ _ (fun k_ => some k_ ≠ (.slice bT t104.length vE : Value).ownBlock) (fun _ => False) rfl rfl ?aO ?aR (fun _ _ h => h) (fun _ h => h.elim) ?aF ?aB ?aS ?aL ?_; (case aR => exact CR); (case aB => exact ZC); (case aF => exact FE); (case aO => exact yR); (case aS => exact VC); (case aL => have := PL.out; omega); intro kG E4 ho G hg O1; rw [← MG.out] at ho; replace o0 := am (U6 (bq o0.out) hg (Kd.n9 I5.out o0.out (by decide))); replace N5 := am (Kd.QB (ok := (fun _ => True)) (qR N5.out) hg O1); replace I := am (G); have r_ := am (ho); clear I5; clear ho G hg O1; obtain ⟨Qu, Sp, ae0, Ww, Jr, Dq, aa7, Dw, ad2, Yn, Bs, Uu⟩ := S1 o0.out) | ((with_reducible refine O_ (b := .append) (xs := #[.tmp 35, .tmp 36]) rfl ?_); at_builtin; refine Kd.IE (Kd.int .u8) (w0 := w) w.heap.size rfl (.tmp 35) (.tmp 36) 39 5 (.int .u8 0) 1 rfl Try.underlying39 OA rfl (by decide) (by omega) kG R3 255 [.int .u8 255] (fun k_ => some k_ ≠ (.slice bT t104.length vE : Value).ownBlock) (fun _ => False) rfl rfl ?aP (fun _ X => X.elim) ?aF ?aO ?aB ?aS ?aL ?_; (case aP => exact rfl); (case aB => exact ZC); (case aF => exact FE); (case aO => exact (qR r_.out)); (case aS => exact VC); (case aL => have := aw3.out; omega); intro QL Yx ho G hg O1; rw [← ES.out] at ho; replace o0 := am (U6 (bq o0.out) hg (Kd.n9 r_.out o0.out (by decide))); replace N5 := am (Kd.QB (ok := (fun _ => True)) (qR N5.out) hg O1); replace I := am (G); have P4 := am (ho); clear r_; clear ho G hg O1; obtain ⟨Rc, XZ, Ga, ce9, bs9, bf9, Kh, Bd, Ed, cb7, bl6, br2⟩ := S1 o0.out) | ((with_reducible refine O_ (b := .append) (xs := #[.tmp 38, .tmp 42]) rfl ?_); at_builtin; refine Kd.IE (Kd.int .u8) (w0 := w) w.heap.size rfl (.tmp 38) (.tmp 42) 39 5 (.int .u8 0) 1 rfl Try.underlying39 OA rfl (by decide) (by omega) QL V4 (((U l0 D0).f3) % 256) [.int .u8 (((U l0 D0).f3) % 256)] (fun k_ => some k_ ≠ (.slice bT t104.length vE : Value).ownBlock) (fun _ => False) rfl rfl ?aP (fun _ X => X.elim) ?aF ?aO ?aB ?aS ?aL ?_; (case aP => exact rfl); (case aB => exact ZC); (case aF => exact FE); (case aO => exact (qR P4.out)); (case aS => exact VC); (case aL => have := bs8.out; omega); intro Ez eK ho G hg O1; rw [← Jc.out] at ho; replace o0 := am (U6 (bq o0.out) hg (Kd.n9 P4.out o0.out (by decide))); replace N5 := am (Kd.QB (ok := (fun _ => True)) (qR N5.out) hg O1); replace I := am (G); have wM := am (ho); clear P4; clear ho G hg O1; obtain ⟨vY, RV, mY, Gk, Wo, Uq, mX, rY, SV, Sc, Zn, ab0⟩ := S1 o0.out) | ((with_reducible refine H2 (f := 36) rfl ?_); refine G2 (some 48) rfl rfl Try.func36 (by kernel_rfl) rfl #[.int .i64 (((U l0 D0).f5).size : Int)] rfl F2 ?_; (with_reducible refine (o_.calls (((U l0 D0).f5).size : Int) J4 _ QH.out).mono ?_); rintro e w27 ⟨ch3, rfl, T3, G⟩; refine ⟨_, rfl, ?_⟩; have dO := am (Kd.j9 (Kd.iF (Kd.iF T3 (Kd.D_ (qR N5.out))) (Kd.D_ (qR wM.out))) (S3 (S0 Q0 I.out))); replace N5 := am (Kd.kF (qR N5.out) (Kd.A_ T3) G); replace wM := am (Kd.kF (qR wM.out) (Kd.A_ T3) G); replace o0 := am (O0 (bq o0.out) G); replace I := am (T0 (S0 Q0 I.out) G); obtain ⟨Us, Uw, av2⟩ := Kd.Q9 dO.out; subst av2) | ((with_reducible refine O_ (b := .append) (xs := #[.tmp 44, .tmp 48]) rfl ?_); at_builtin; refine Kd.jJ (Kd.int .u8) (w0 := w) w.heap.size rfl (.tmp 44) (.tmp 48) 39 5 (.int .u8 0) 1 rfl Try.underlying39 OA rfl (by decide) (by omega) Ez eA J4 _ _ _ (fun k_ => some k_ ≠ (.slice bT t104.length vE : Value).ownBlock ∧ some k_ ≠ (.slice Us J4.length Uw : Value).ownBlock) (fun _ => False) rfl rfl ?aO ?aR (fun _ _ h => h) (fun _ h => h.elim) ?aF ?aB ?aS ?aL ?_; (case aR => repeat (exact (Kd.n_ dO.out).2.2)); (case aB => exact ZC); (case aF => exact (fun k_ X => ⟨Kd.I7 (Kd.D_ (qR N5.out)) k_ X, Kd.I7 (Kd.D_ (qR dO.out)) k_ X⟩)); (case aO => exact (qR wM.out)); (case aS => exact VC); (case aL => have := bk7.out; omega); intro Cu Oi ho G hg O1; rw [← Ze.out] at ho; replace o0 := am (U6 (bq o0.out) hg (Kd.n9 wM.out o0.out (by decide))); replace N5 := am (Kd.QB (ok := (fun k_ => some k_ ≠ (.slice Us J4.length Uw : Value).ownBlock)) ar1 hg O1); replace dO := am (Kd.QB (ok := (fun k_ => some k_ ≠ (.slice bT t104.length vE : Value).ownBlock)) (by (with_reducible repeat (first | apply Kd.GE | apply Kd.dE | apply Kd.EE)); exact Kd.Y5 dO.out (fun _ X => ⟨X.1.2, X.2⟩)) hg O1); replace I := am (G); have CT := am (ho); clear wM; clear ho G hg O1; obtain ⟨vT, kT, lU, uW, Yb, Xc, dU, bS, mT, KX, Nf, Cf⟩ := S1 o0.out) | (at_builtin; refine HZ (w0 := w) w.heap.size rfl (.tmp 50) _ 39 9 5 rfl Try.underlying39 Try.underlying9 OA Cu gA ((U l0 D0).f5) rfl rfl ?aO ?aB ?aS ?aL ?_; (case aB => exact ZC); (case aO => exact (Kd.yG (by (with_reducible repeat (first | apply Kd.GE | apply Kd.dE | apply Kd.EE)); exact Kd.Y5 CT.out (fun _ X => trivial)))); (case aS => exact VC); (case aL => have := cg9.out; omega); intro br9 EU T3 G hg; have ho := Kd.bR (h1 := fun _ => rfl) (ok := fun _ => True) T3 (fun _ _ => trivial); clear T3; have O1 := True.intro; rw [← cc9.out] at ho; change Kd.R (Kd.int .u8) 5 EU w.heap.size (fun _ => True) br9 Ci at ho; replace o0 := am (U6 (bq o0.out) hg (Kd.n9 CT.out o0.out (by decide))); replace I := am (G); have cd8 := am (ho); clear CT; clear ho G hg O1)); go_roundg k1
    case measure => have := S4.out; omega
    case rel => exact ⟨(Ci), (0), (wrap64 (D0 + 1)), (by rfl), (by rfl), H', ⟨C_⟩, ⟨qR cd8.out⟩, ⟨S0 Q0 I.out⟩⟩
   rw [if_neg c9] at H; have xH : (((U l0 D0).f1) == 16) = false := beq_eq_false_iff_ne.mpr c9; have JP : (((U l0 D0).f1) != 16) = true := bne_iff_ne.mpr c9; by_cases o9 : ((U l0 D0).f1) = 15
   ·rw [if_pos o9] at H; have PI : (((U l0 D0).f1) == 15) = true := beq_iff_eq.mpr o9; have iY : (((U l0 D0).f1) != 15) = false := bne_eq_false_iff_eq.mpr o9; clear o9; by_cases NB : R3.length < 140737488355328; rotate_left
    ·rw [if_neg NB] at H; exact absurd H (by simp)
    rw [if_pos NB] at H; have cd7 := am NB; clear NB; obtain ⟨dG, Le⟩ : ∃ y_ : List Int, y_ = (R3 ++ [((U l0 D0).f3) % 256]) := ⟨_, rfl⟩
    replace H : ((o_.f (((U l0 D0).f5).size : Int)).bind fun g_ => (if dG.length + g_.length < 140737488355328 then ((some (dG ++ g_ : List Int)).bind fun rE => (if rE.length + ((U l0 D0).f5).size < 140737488355328 then (z5.l0 k1 (rE ++ bytesOf ((U l0 D0).f5)) 0 l0 (l0.length : Int) (wrap64 (D0 + 1))) else (none))) else (none))) = some (r1, r2) := by (have S6 := (Option.bind_some _ _).symm.trans H; rw [Le]; with_reducible exact S6)
    have bc1 := am Le; clear Le; replace H := L2 H; obtain ⟨g_, Du, H⟩ := H; have A34 := am Du; clear Du; by_cases aC : dG.length + g_.length < 140737488355328; rotate_left
    ·rw [if_neg aC] at H; exact absurd H (by simp)
    rw [if_pos aC] at H; have ce8 := am aC; clear aC; obtain ⟨rE, Td⟩ : ∃ y_ : List Int, y_ = (dG ++ g_) := ⟨_, rfl⟩
    replace H : (if rE.length + ((U l0 D0).f5).size < 140737488355328 then (z5.l0 k1 (rE ++ bytesOf ((U l0 D0).f5)) 0 l0 (l0.length : Int) (wrap64 (D0 + 1))) else (none)) = some (r1, r2) := by (have S6 := (Option.bind_some _ _).symm.trans H; rw [Td]; with_reducible exact S6)
    have bf5 := am Td; clear Td; by_cases X9 : rE.length + ((U l0 D0).f5).size < 140737488355328; rotate_left
    ·rw [if_neg X9] at H; exact absurd H (by simp)
    rw [if_pos X9] at H; have ax2 := am X9; clear X9; obtain ⟨Rj, Oj⟩ : ∃ y_ : List Int, y_ = (rE ++ bytesOf ((U l0 D0).f5)) := ⟨_, rfl⟩
    replace H : (z5.l0 k1 Rj 0 l0 (l0.length : Int) (wrap64 (D0 + 1))) = some (r1, r2) := by (rw [Oj]; with_reducible exact H)
    have az5 := am Oj; clear Oj; have H' := am H; clear H; have N4 : 0 ≤ (D0 : Int) := of_decide_eq_true R1; have M4 : D0 < (l0.length : Int) := of_decide_eq_true R1; obtain ⟨P6, H9, F7, S7, Q7, P7, R7, U7⟩ := jA J_.out D0 N4 M4; cases H9; replace F7 := W0 I.out F7; replace S7 := W0 I.out S7; replace Q7 := W0 I.out Q7; replace P7 := W0 I.out P7; replace R7 := W0 I.out R7; replace U7 := W0 I.out U7; replace N4 := eq_true N4; replace M4 := eq_true M4; go_wp2_with (first | ((with_reducible refine P2 (N := 7) rfl ?_); refine D3 ?hg (N := 7) ?hd (cs := #[.int .i64 0, .int .i64 0, .int .i64 0, .int .i64 0, .int .i64 0, .string (⟨#[]⟩ : ByteArray)]) (t := 28) ?hr ?_; (case hd => rfl); (case hg => rfl); (case hr => exact Z2); intro K0 hg NV M0 G; replace I5 := am (Kd.j7 (qR I5.out) G); have o0 := am (M0); have YA := am ((U2 : w.heap.size ≤ K0)); have Q0 := am ((U2 : w.heap.size ≤ K0)); replace I := am (T0 (qB I.out) G); clear G M0 hg; obtain ⟨aw1, bg1, ci9, cj8, bg8, cj7, bg6, bw9, bz6, ck1, bv1, cf1⟩ := S1 o0.out) | ((with_reducible refine H2 (f := 35) rfl ?_); refine G2 (some 16) rfl rfl Try.func35 (by kernel_rfl) rfl #[.agg #[.int .i64 ((U l0 D0).f0), .int .i64 ((U l0 D0).f1), .int .i64 ((U l0 D0).f2), .int .i64 ((U l0 D0).f3), .int .i64 ((U l0 D0).f4), .string ((U l0 D0).f5)]] rfl F2 ?_; (with_reducible refine (K3.calls k1 ((U l0 D0).f0) ((U l0 D0).f1) ((U l0 D0).f2) ((U l0 D0).f3) ((U l0 D0).f4) ((U l0 D0).f5) true _ A5.out).mono ?_); rintro e Jz ⟨rfl, G⟩; refine ⟨_, rfl, ?_⟩; replace I5 := am (Kd.j7 qP G); replace o0 := am (O0 (g := K0) (o := .cells #[.int .i64 ((U l0 D0).f0), .int .i64 ((U l0 D0).f1), .int .i64 ((U l0 D0).f2), .int .i64 ((U l0 D0).f3), .int .i64 ((U l0 D0).f4), .string ((U l0 D0).f5)] 28 (0, 0)) (by refine bq ?_; refine J0 (cs := #[.int .i64 ((U l0 D0).f0), .int .i64 ((U l0 D0).f1), .int .i64 ((U l0 D0).f2), .int .i64 ((U l0 D0).f3), .int .i64 ((U l0 D0).f4), .string (⟨#[]⟩ : ByteArray)]) ?_ 5 _ rfl; refine bq ?_; refine J0 (cs := #[.int .i64 ((U l0 D0).f0), .int .i64 ((U l0 D0).f1), .int .i64 ((U l0 D0).f2), .int .i64 ((U l0 D0).f3), .int .i64 0, .string (⟨#[]⟩ : ByteArray)]) ?_ 4 _ rfl; refine bq ?_; refine J0 (cs := #[.int .i64 ((U l0 D0).f0), .int .i64 ((U l0 D0).f1), .int .i64 ((U l0 D0).f2), .int .i64 0, .int .i64 0, .string (⟨#[]⟩ : ByteArray)]) ?_ 3 _ rfl; refine bq ?_; refine J0 (cs := #[.int .i64 ((U l0 D0).f0), .int .i64 ((U l0 D0).f1), .int .i64 0, .int .i64 0, .int .i64 0, .string (⟨#[]⟩ : ByteArray)]) ?_ 2 _ rfl; refine bq ?_; refine J0 (cs := #[.int .i64 ((U l0 D0).f0), .int .i64 0, .int .i64 0, .int .i64 0, .int .i64 0, .string (⟨#[]⟩ : ByteArray)]) ?_ 1 _ rfl; refine bq ?_; refine J0 (cs := #[.int .i64 0, .int .i64 0, .int .i64 0, .int .i64 0, .int .i64 0, .string (⟨#[]⟩ : ByteArray)]) ?_ 0 _ rfl; exact bq o0.out) G); replace I := am (T0 (S0 Q0 I.out) G); obtain ⟨NX, mW, JW, Yr, Po, Xr, aW, oY, YW, Hu, Zx, Qw⟩ := S1 o0.out) | ((with_reducible refine H2 (f := 36) rfl ?_); refine G2 (some 21) rfl rfl Try.func36 (by kernel_rfl) rfl #[.int .i64 ((U l0 D0).f0)] rfl F2 ?_; (with_reducible refine (o_.calls ((U l0 D0).f0) t104 _ A7.out).mono ?_); rintro e Kz ⟨yN, rfl, T3, G⟩; refine ⟨_, rfl, ?_⟩; have N5 := am (Kd.j9 (Kd.iF T3 (Kd.D_ (qR I5.out))) (S3 (S0 Q0 I.out))); replace I5 := am (Kd.kF (qR I5.out) (Kd.A_ T3) G); replace o0 := am (O0 (bq o0.out) G); replace I := am (T0 (S0 Q0 I.out) G); obtain ⟨BY, pX, bo5⟩ := Kd.Q9 N5.out; subst bo5) | ((with_reducible refine O_ (b := .append) (xs := #[.tmp 18, .tmp 21]) rfl ?_); at_builtin; refine Kd.jJ (Kd.int .u8) (w0 := w) w.heap.size rfl (.tmp 18) (.tmp 21) 39 5 (.int .u8 0) 1 rfl Try.underlying39 OA rfl (by decide) (by omega) u4 V0 t104 _ _ _ (fun k_ => some k_ ≠ (.slice BY t104.length pX : Value).ownBlock) (fun _ => False) rfl rfl ?aO ?aR (fun _ _ h => h) (fun _ h => h.elim) ?aF ?aB ?aS ?aL ?_; (case aR => exact CR); (case aB => exact ZC); (case aF => exact FE); (case aO => exact yR); (case aS => exact VC); (case aL => have := PL.out; omega); intro kG w42 ho G hg O1; rw [← MG.out] at ho; replace o0 := am (U6 (bq o0.out) hg (Kd.n9 I5.out o0.out (by decide))); replace N5 := am (Kd.QB (ok := (fun _ => True)) (qR N5.out) hg O1); replace I := am (G); have r_ := am (ho); clear I5; clear ho G hg O1; obtain ⟨OX, nX, hX, Ah, Hd, Kj, VW, LX, DV, YZ, Ra, Uj⟩ := S1 o0.out) | ((with_reducible refine O_ (b := .append) (xs := #[.tmp 38, .tmp 42]) rfl ?_); at_builtin; refine Kd.IE (Kd.int .u8) (w0 := w) w.heap.size rfl (.tmp 38) (.tmp 42) 39 5 (.int .u8 0) 1 rfl Try.underlying39 OA rfl (by decide) (by omega) kG R3 (((U l0 D0).f3) % 256) [.int .u8 (((U l0 D0).f3) % 256)] (fun k_ => some k_ ≠ (.slice BY t104.length pX : Value).ownBlock) (fun _ => False) rfl rfl ?aP (fun _ X => X.elim) ?aF ?aO ?aB ?aS ?aL ?_; (case aP => exact rfl); (case aB => exact ZC); (case aF => exact FE); (case aO => exact (qR r_.out)); (case aS => exact VC); (case aL => have := cd7.out; omega); intro az9 w45 ho G hg O1; rw [← bc1.out] at ho; replace o0 := am (U6 (bq o0.out) hg (Kd.n9 r_.out o0.out (by decide))); replace N5 := am (Kd.QB (ok := (fun _ => True)) (qR N5.out) hg O1); replace I := am (G); have lQ := am (ho); clear r_; clear ho G hg O1; obtain ⟨TZ, Zd, Oc, be4, dq8, fg3, Nd, Me, Vb, bc7, ej7, fs8⟩ := S1 o0.out) | ((with_reducible refine H2 (f := 36) rfl ?_); refine G2 (some 48) rfl rfl Try.func36 (by kernel_rfl) rfl #[.int .i64 (((U l0 D0).f5).size : Int)] rfl F2 ?_; (with_reducible refine (o_.calls (((U l0 D0).f5).size : Int) g_ _ A34.out).mono ?_); rintro e Zs ⟨dV, rfl, T3, G⟩; refine ⟨_, rfl, ?_⟩; have FB := am (Kd.j9 (Kd.iF (Kd.iF T3 (Kd.D_ (qR N5.out))) (Kd.D_ (qR lQ.out))) (S3 (S0 Q0 I.out))); replace N5 := am (Kd.kF (qR N5.out) (Kd.A_ T3) G); replace lQ := am (Kd.kF (qR lQ.out) (Kd.A_ T3) G); replace o0 := am (O0 (bq o0.out) G); replace I := am (T0 (S0 Q0 I.out) G); obtain ⟨Tw, Kv, ce4⟩ := Kd.Q9 FB.out; subst ce4) | ((with_reducible refine O_ (b := .append) (xs := #[.tmp 44, .tmp 48]) rfl ?_); at_builtin; refine Kd.jJ (Kd.int .u8) (w0 := w) w.heap.size rfl (.tmp 44) (.tmp 48) 39 5 (.int .u8 0) 1 rfl Try.underlying39 OA rfl (by decide) (by omega) az9 dG g_ _ _ _ (fun k_ => some k_ ≠ (.slice BY t104.length pX : Value).ownBlock ∧ some k_ ≠ (.slice Tw g_.length Kv : Value).ownBlock) (fun _ => False) rfl rfl ?aO ?aR (fun _ _ h => h) (fun _ h => h.elim) ?aF ?aB ?aS ?aL ?_; (case aR => repeat (exact (Kd.n_ FB.out).2.2)); (case aB => exact ZC); (case aF => exact (fun k_ X => ⟨Kd.I7 (Kd.D_ (qR N5.out)) k_ X, Kd.I7 (Kd.D_ (qR FB.out)) k_ X⟩)); (case aO => exact (qR lQ.out)); (case aS => exact VC); (case aL => have := ce8.out; omega); intro bc4 w48 ho G hg O1; rw [← bf5.out] at ho; replace o0 := am (U6 (bq o0.out) hg (Kd.n9 lQ.out o0.out (by decide))); replace N5 := am (Kd.QB (ok := (fun k_ => some k_ ≠ (.slice Tw g_.length Kv : Value).ownBlock)) ar1 hg O1); replace FB := am (Kd.QB (ok := (fun k_ => some k_ ≠ (.slice BY t104.length pX : Value).ownBlock)) (by (with_reducible repeat (first | apply Kd.GE | apply Kd.dE | apply Kd.EE)); exact Kd.Y5 FB.out (fun _ X => ⟨X.1.2, X.2⟩)) hg O1); replace I := am (G); have Fj := am (ho); clear lQ; clear ho G hg O1; obtain ⟨Fi, Rh, Qa, ab9, Lz, ae1, Vd, Tj, Xd, Wz, ac8, Xz⟩ := S1 o0.out) | (at_builtin; refine HZ (w0 := w) w.heap.size rfl (.tmp 50) _ 39 9 5 rfl Try.underlying39 Try.underlying9 OA bc4 rE ((U l0 D0).f5) rfl rfl ?aO ?aB ?aS ?aL ?_; (case aB => exact ZC); (case aO => exact (Kd.yG (by (with_reducible repeat (first | apply Kd.GE | apply Kd.dE | apply Kd.EE)); exact Kd.Y5 Fj.out (fun _ X => trivial)))); (case aS => exact VC); (case aL => have := ax2.out; omega); intro WZ Wb T3 G hg; have ho := Kd.bR (h1 := fun _ => rfl) (ok := fun _ => True) T3 (fun _ _ => trivial); clear T3; have O1 := True.intro; rw [← az5.out] at ho; change Kd.R (Kd.int .u8) 5 Wb w.heap.size (fun _ => True) WZ Rj at ho; replace o0 := am (U6 (bq o0.out) hg (Kd.n9 Fj.out o0.out (by decide))); replace I := am (G); have LD := am (ho); clear Fj; clear ho G hg O1)); go_roundg k1
    case measure => have := S4.out; omega
    case rel => exact ⟨(Rj), (0), (wrap64 (D0 + 1)), (by rfl), (by rfl), H', ⟨C_⟩, ⟨qR LD.out⟩, ⟨S0 Q0 I.out⟩⟩
   rw [if_neg o9] at H; have PI : (((U l0 D0).f1) == 15) = false := beq_eq_false_iff_ne.mpr o9; have iY : (((U l0 D0).f1) != 15) = true := bne_iff_ne.mpr o9; by_cases AC : (wrap64 ((wrap64 (16 * ((U l0 D0).f1))) + ((U l0 D0).f2))) = E0
   ·rw [if_pos AC] at H; have Ua : ((wrap64 ((wrap64 (16 * ((U l0 D0).f1))) + ((U l0 D0).f2))) == E0) = true := beq_iff_eq.mpr AC; have Aj : ((wrap64 ((wrap64 (16 * ((U l0 D0).f1))) + ((U l0 D0).f2))) != E0) = false := bne_eq_false_iff_eq.mpr AC; clear AC; by_cases lP : R3.length < 140737488355328; rotate_left
    ·rw [if_neg lP] at H; exact absurd H (by simp)
    rw [if_pos lP] at H; have Nq := am lP; clear lP; obtain ⟨EC, Ud⟩ : ∃ y_ : List Int, y_ = (R3 ++ [((U l0 D0).f3) % 256]) := ⟨_, rfl⟩
    replace H : ((JC.f ((U l0 D0).f1)).bind fun CK => (if CK = true then (z5.l0 k1 EC (wrap64 ((wrap64 (16 * ((U l0 D0).f1))) + ((U l0 D0).f2))) l0 (l0.length : Int) (wrap64 (D0 + 1))) else (if EC.length < 140737488355328 then (z5.l0 k1 (EC ++ [((U l0 D0).f4) % 256]) (wrap64 ((wrap64 (16 * ((U l0 D0).f1))) + ((U l0 D0).f2))) l0 (l0.length : Int) (wrap64 (D0 + 1))) else (none)))) = some (r1, r2) := by (have S6 := (Option.bind_some _ _).symm.trans H; rw [Ud]; with_reducible exact S6)
    have Sq := am Ud; clear Ud; replace H := L2 H; obtain ⟨CK, Ty, H⟩ := H; have A54 := am Ty; clear Ty; by_cases NW : CK = true
    ·subst NW; have H1 : (z5.l0 k1 EC (wrap64 ((wrap64 (16 * ((U l0 D0).f1))) + ((U l0 D0).f2))) l0 (l0.length : Int) (wrap64 (D0 + 1))) = some (r1, r2) := by rw [if_pos rfl] at H; exact H
     clear H; have H := H1; clear H1; have H' := am H; clear H; have N4 : 0 ≤ (D0 : Int) := of_decide_eq_true R1; have M4 : D0 < (l0.length : Int) := of_decide_eq_true R1; obtain ⟨P6, H9, F7, S7, Q7, P7, R7, U7⟩ := jA J_.out D0 N4 M4; cases H9; replace F7 := W0 I.out F7; replace S7 := W0 I.out S7; replace Q7 := W0 I.out Q7; replace P7 := W0 I.out P7; replace R7 := W0 I.out R7; replace U7 := W0 I.out U7; replace N4 := eq_true N4; replace M4 := eq_true M4; go_wp2_with (first | ((with_reducible refine P2 (N := 7) rfl ?_); refine D3 ?hg (N := 7) ?hd (cs := #[.int .i64 0, .int .i64 0, .int .i64 0, .int .i64 0, .int .i64 0, .string (⟨#[]⟩ : ByteArray)]) (t := 28) ?hr ?_; (case hd => rfl); (case hg => rfl); (case hr => exact Z2); intro K0 hg Ly M0 G; replace I5 := am (Kd.j7 (qR I5.out) G); have o0 := am (M0); have YA := am ((U2 : w.heap.size ≤ K0)); have Q0 := am ((U2 : w.heap.size ≤ K0)); replace I := am (T0 (qB I.out) G); clear G M0 hg; obtain ⟨Ij, Ob, Of, St, Nw, Gq, Dg, Bi, Hi, Gp, aa5, ab8⟩ := S1 o0.out) | ((with_reducible refine H2 (f := 35) rfl ?_); refine G2 (some 16) rfl rfl Try.func35 (by kernel_rfl) rfl #[.agg #[.int .i64 ((U l0 D0).f0), .int .i64 ((U l0 D0).f1), .int .i64 ((U l0 D0).f2), .int .i64 ((U l0 D0).f3), .int .i64 ((U l0 D0).f4), .string ((U l0 D0).f5)]] rfl F2 ?_; (with_reducible refine (K3.calls k1 ((U l0 D0).f0) ((U l0 D0).f1) ((U l0 D0).f2) ((U l0 D0).f3) ((U l0 D0).f4) ((U l0 D0).f5) true _ A5.out).mono ?_); rintro e uY ⟨rfl, G⟩; refine ⟨_, rfl, ?_⟩; replace I5 := am (Kd.j7 qP G); replace o0 := am (O0 (g := K0) (o := .cells #[.int .i64 ((U l0 D0).f0), .int .i64 ((U l0 D0).f1), .int .i64 ((U l0 D0).f2), .int .i64 ((U l0 D0).f3), .int .i64 ((U l0 D0).f4), .string ((U l0 D0).f5)] 28 (0, 0)) (by refine bq ?_; refine J0 (cs := #[.int .i64 ((U l0 D0).f0), .int .i64 ((U l0 D0).f1), .int .i64 ((U l0 D0).f2), .int .i64 ((U l0 D0).f3), .int .i64 ((U l0 D0).f4), .string (⟨#[]⟩ : ByteArray)]) ?_ 5 _ rfl; refine bq ?_; refine J0 (cs := #[.int .i64 ((U l0 D0).f0), .int .i64 ((U l0 D0).f1), .int .i64 ((U l0 D0).f2), .int .i64 ((U l0 D0).f3), .int .i64 0, .string (⟨#[]⟩ : ByteArray)]) ?_ 4 _ rfl; refine bq ?_; refine J0 (cs := #[.int .i64 ((U l0 D0).f0), .int .i64 ((U l0 D0).f1), .int .i64 ((U l0 D0).f2), .int .i64 0, .int .i64 0, .string (⟨#[]⟩ : ByteArray)]) ?_ 3 _ rfl; refine bq ?_; refine J0 (cs := #[.int .i64 ((U l0 D0).f0), .int .i64 ((U l0 D0).f1), .int .i64 0, .int .i64 0, .int .i64 0, .string (⟨#[]⟩ : ByteArray)]) ?_ 2 _ rfl; refine bq ?_; refine J0 (cs := #[.int .i64 ((U l0 D0).f0), .int .i64 0, .int .i64 0, .int .i64 0, .int .i64 0, .string (⟨#[]⟩ : ByteArray)]) ?_ 1 _ rfl; refine bq ?_; refine J0 (cs := #[.int .i64 0, .int .i64 0, .int .i64 0, .int .i64 0, .int .i64 0, .string (⟨#[]⟩ : ByteArray)]) ?_ 0 _ rfl; exact bq o0.out) G); replace I := am (T0 (S0 Q0 I.out) G); obtain ⟨ZU, GU, QU, Da, Nv, Bw, VS, IU, iS, Ri, Jt, Az⟩ := S1 o0.out) | ((with_reducible refine H2 (f := 36) rfl ?_); refine G2 (some 21) rfl rfl Try.func36 (by kernel_rfl) rfl #[.int .i64 ((U l0 D0).f0)] rfl F2 ?_; (with_reducible refine (o_.calls ((U l0 D0).f0) t104 _ A7.out).mono ?_); rintro e Tz ⟨yN, rfl, T3, G⟩; refine ⟨_, rfl, ?_⟩; have N5 := am (Kd.j9 (Kd.iF T3 (Kd.D_ (qR I5.out))) (S3 (S0 Q0 I.out))); replace I5 := am (Kd.kF (qR I5.out) (Kd.A_ T3) G); replace o0 := am (O0 (bq o0.out) G); replace I := am (T0 (S0 Q0 I.out) G); obtain ⟨pS, xS, Mh⟩ := Kd.Q9 N5.out; subst Mh) | ((with_reducible refine O_ (b := .append) (xs := #[.tmp 18, .tmp 21]) rfl ?_); at_builtin; refine Kd.jJ (Kd.int .u8) (w0 := w) w.heap.size rfl (.tmp 18) (.tmp 21) 39 5 (.int .u8 0) 1 rfl Try.underlying39 OA rfl (by decide) (by omega) u4 V0 t104 _ _ _ (fun k_ => some k_ ≠ (.slice pS t104.length xS : Value).ownBlock) (fun _ => False) rfl rfl ?aO ?aR (fun _ _ h => h) (fun _ h => h.elim) ?aF ?aB ?aS ?aL ?_; (case aR => exact CR); (case aB => exact ZC); (case aF => exact FE); (case aO => exact yR); (case aS => exact VC); (case aL => have := PL.out; omega); intro kG FN ho G hg O1; rw [← MG.out] at ho; replace o0 := am (U6 (bq o0.out) hg (Kd.n9 I5.out o0.out (by decide))); replace N5 := am (Kd.QB (ok := (fun _ => True)) (qR N5.out) hg O1); replace I := am (G); have r_ := am (ho); clear I5; clear ho G hg O1; obtain ⟨bp0, bk5, cb2, bm7, ce7, ay7, bn2, cd1, aw4, bg7, av3, az2⟩ := S1 o0.out) | ((with_reducible refine O_ (b := .append) (xs := #[.tmp 62, .tmp 66]) rfl ?_); at_builtin; refine Kd.IE (Kd.int .u8) (w0 := w) w.heap.size rfl (.tmp 62) (.tmp 66) 39 5 (.int .u8 0) 1 rfl Try.underlying39 OA rfl (by decide) (by omega) kG R3 (((U l0 D0).f3) % 256) [.int .u8 (((U l0 D0).f3) % 256)] (fun k_ => some k_ ≠ (.slice pS t104.length xS : Value).ownBlock) (fun _ => False) rfl rfl ?aP (fun _ X => X.elim) ?aF ?aO ?aB ?aS ?aL ?_; (case aP => exact rfl); (case aB => exact ZC); (case aF => exact FE); (case aO => exact (qR r_.out)); (case aS => exact VC); (case aL => have := Nq.out; omega); intro Kw U3 ho G hg O1; rw [← Sq.out] at ho; replace o0 := am (U6 (bq o0.out) hg (Kd.n9 r_.out o0.out (by decide))); replace N5 := am (Kd.QB (ok := (fun _ => True)) (qR N5.out) hg O1); replace I := am (G); have VT := am (ho); clear r_; clear ho G hg O1; obtain ⟨EY, iX, JX, Bz, Bq, Ot, aX, TV, jX, Ft, Gv, Yw⟩ := S1 o0.out) | ((with_reducible refine H2 (f := 37) rfl ?_); refine G2 (some 70) rfl rfl Try.func37 (by kernel_rfl) rfl #[.int .i64 ((U l0 D0).f1)] rfl F2 ?_; (with_reducible refine (JC.calls ((U l0 D0).f1) true _ A54.out).mono ?_); rintro e w' ⟨rfl, ⟨nd, rfl⟩⟩; refine ⟨_, rfl, ?_⟩)); go_roundg k1
     case measure => have := S4.out; omega
     case rel => exact ⟨(EC), (wrap64 ((wrap64 (16 * ((U l0 D0).f1))) + ((U l0 D0).f2))), (wrap64 (D0 + 1)), (by rfl), (by rfl), H', ⟨C_⟩, ⟨qR (Kd.Y5 VT.out (fun _ X => trivial))⟩, ⟨S0 Q0 I.out⟩⟩
    replace NW := Bool.eq_false_iff.mpr NW; subst NW; have H1 : (if EC.length < 140737488355328 then (z5.l0 k1 (EC ++ [((U l0 D0).f4) % 256]) (wrap64 ((wrap64 (16 * ((U l0 D0).f1))) + ((U l0 D0).f2))) l0 (l0.length : Int) (wrap64 (D0 + 1))) else (none)) = some (r1, r2) := by rw [if_neg (show ¬ (false = true) by decide)] at H; exact H
    clear H; have H := H1; clear H1; by_cases kW : EC.length < 140737488355328; rotate_left
    ·rw [if_neg kW] at H; exact absurd H (by simp)
    rw [if_pos kW] at H; have ay2 := am kW; clear kW; obtain ⟨Xq, Sd⟩ : ∃ y_ : List Int, y_ = (EC ++ [((U l0 D0).f4) % 256]) := ⟨_, rfl⟩
    replace H : (z5.l0 k1 Xq (wrap64 ((wrap64 (16 * ((U l0 D0).f1))) + ((U l0 D0).f2))) l0 (l0.length : Int) (wrap64 (D0 + 1))) = some (r1, r2) := by (rw [Sd]; with_reducible exact H)
    have bj1 := am Sd; clear Sd; have H' := am H; clear H; have N4 : 0 ≤ (D0 : Int) := of_decide_eq_true R1; have M4 : D0 < (l0.length : Int) := of_decide_eq_true R1; obtain ⟨P6, H9, F7, S7, Q7, P7, R7, U7⟩ := jA J_.out D0 N4 M4; cases H9; replace F7 := W0 I.out F7; replace S7 := W0 I.out S7; replace Q7 := W0 I.out Q7; replace P7 := W0 I.out P7; replace R7 := W0 I.out R7; replace U7 := W0 I.out U7; replace N4 := eq_true N4; replace M4 := eq_true M4; go_wp2_with (first | ((with_reducible refine P2 (N := 7) rfl ?_); refine D3 ?hg (N := 7) ?hd (cs := #[.int .i64 0, .int .i64 0, .int .i64 0, .int .i64 0, .int .i64 0, .string (⟨#[]⟩ : ByteArray)]) (t := 28) ?hr ?_; (case hd => rfl); (case hg => rfl); (case hr => exact Z2); intro K0 hg Yo M0 G; replace I5 := am (Kd.j7 (qR I5.out) G); have o0 := am (M0); have YA := am ((U2 : w.heap.size ≤ K0)); have Q0 := am ((U2 : w.heap.size ≤ K0)); replace I := am (T0 (qB I.out) G); clear G M0 hg; obtain ⟨fk6, fd8, er3, et5, ep7, el7, dd3, ew5, fh5, ee5, fe8, do4⟩ := S1 o0.out) | ((with_reducible refine H2 (f := 35) rfl ?_); refine G2 (some 16) rfl rfl Try.func35 (by kernel_rfl) rfl #[.agg #[.int .i64 ((U l0 D0).f0), .int .i64 ((U l0 D0).f1), .int .i64 ((U l0 D0).f2), .int .i64 ((U l0 D0).f3), .int .i64 ((U l0 D0).f4), .string ((U l0 D0).f5)]] rfl F2 ?_; (with_reducible refine (K3.calls k1 ((U l0 D0).f0) ((U l0 D0).f1) ((U l0 D0).f2) ((U l0 D0).f3) ((U l0 D0).f4) ((U l0 D0).f5) true _ A5.out).mono ?_); rintro e w69 ⟨rfl, G⟩; refine ⟨_, rfl, ?_⟩; replace I5 := am (Kd.j7 qP G); replace o0 := am (O0 (g := K0) (o := .cells #[.int .i64 ((U l0 D0).f0), .int .i64 ((U l0 D0).f1), .int .i64 ((U l0 D0).f2), .int .i64 ((U l0 D0).f3), .int .i64 ((U l0 D0).f4), .string ((U l0 D0).f5)] 28 (0, 0)) (by refine bq ?_; refine J0 (cs := #[.int .i64 ((U l0 D0).f0), .int .i64 ((U l0 D0).f1), .int .i64 ((U l0 D0).f2), .int .i64 ((U l0 D0).f3), .int .i64 ((U l0 D0).f4), .string (⟨#[]⟩ : ByteArray)]) ?_ 5 _ rfl; refine bq ?_; refine J0 (cs := #[.int .i64 ((U l0 D0).f0), .int .i64 ((U l0 D0).f1), .int .i64 ((U l0 D0).f2), .int .i64 ((U l0 D0).f3), .int .i64 0, .string (⟨#[]⟩ : ByteArray)]) ?_ 4 _ rfl; refine bq ?_; refine J0 (cs := #[.int .i64 ((U l0 D0).f0), .int .i64 ((U l0 D0).f1), .int .i64 ((U l0 D0).f2), .int .i64 0, .int .i64 0, .string (⟨#[]⟩ : ByteArray)]) ?_ 3 _ rfl; refine bq ?_; refine J0 (cs := #[.int .i64 ((U l0 D0).f0), .int .i64 ((U l0 D0).f1), .int .i64 0, .int .i64 0, .int .i64 0, .string (⟨#[]⟩ : ByteArray)]) ?_ 2 _ rfl; refine bq ?_; refine J0 (cs := #[.int .i64 ((U l0 D0).f0), .int .i64 0, .int .i64 0, .int .i64 0, .int .i64 0, .string (⟨#[]⟩ : ByteArray)]) ?_ 1 _ rfl; refine bq ?_; refine J0 (cs := #[.int .i64 0, .int .i64 0, .int .i64 0, .int .i64 0, .int .i64 0, .string (⟨#[]⟩ : ByteArray)]) ?_ 0 _ rfl; exact bq o0.out) G); replace I := am (T0 (S0 Q0 I.out) G); obtain ⟨eb3, dl6, dj6, fa9, dj7, es7, fn9, eu5, es6, dq5, eh5, el8⟩ := S1 o0.out) | ((with_reducible refine H2 (f := 36) rfl ?_); refine G2 (some 21) rfl rfl Try.func36 (by kernel_rfl) rfl #[.int .i64 ((U l0 D0).f0)] rfl F2 ?_; (with_reducible refine (o_.calls ((U l0 D0).f0) t104 _ A7.out).mono ?_); rintro e Pv ⟨yN, rfl, T3, G⟩; refine ⟨_, rfl, ?_⟩; have N5 := am (Kd.j9 (Kd.iF T3 (Kd.D_ (qR I5.out))) (S3 (S0 Q0 I.out))); replace I5 := am (Kd.kF (qR I5.out) (Kd.A_ T3) G); replace o0 := am (O0 (bq o0.out) G); replace I := am (T0 (S0 Q0 I.out) G); obtain ⟨mO, RO, Ui⟩ := Kd.Q9 N5.out; subst Ui) | ((with_reducible refine O_ (b := .append) (xs := #[.tmp 18, .tmp 21]) rfl ?_); at_builtin; refine Kd.jJ (Kd.int .u8) (w0 := w) w.heap.size rfl (.tmp 18) (.tmp 21) 39 5 (.int .u8 0) 1 rfl Try.underlying39 OA rfl (by decide) (by omega) u4 V0 t104 _ _ _ (fun k_ => some k_ ≠ (.slice mO t104.length RO : Value).ownBlock) (fun _ => False) rfl rfl ?aO ?aR (fun _ _ h => h) (fun _ h => h.elim) ?aF ?aB ?aS ?aL ?_; (case aR => exact CR); (case aB => exact ZC); (case aF => exact FE); (case aO => exact yR); (case aS => exact VC); (case aL => have := PL.out; omega); intro kG cJ ho G hg O1; rw [← MG.out] at ho; replace o0 := am (U6 (bq o0.out) hg (Kd.n9 I5.out o0.out (by decide))); replace N5 := am (Kd.QB (ok := (fun _ => True)) (qR N5.out) hg O1); replace I := am (G); have r_ := am (ho); clear I5; clear ho G hg O1; obtain ⟨Lq, Ux, Xv, fk1, ev6, eq4, Iz, Kp, aa8, eg4, fh4, ex1⟩ := S1 o0.out) | ((with_reducible refine O_ (b := .append) (xs := #[.tmp 62, .tmp 66]) rfl ?_); at_builtin; refine Kd.IE (Kd.int .u8) (w0 := w) w.heap.size rfl (.tmp 62) (.tmp 66) 39 5 (.int .u8 0) 1 rfl Try.underlying39 OA rfl (by decide) (by omega) kG R3 (((U l0 D0).f3) % 256) [.int .u8 (((U l0 D0).f3) % 256)] (fun k_ => some k_ ≠ (.slice mO t104.length RO : Value).ownBlock) (fun _ => False) rfl rfl ?aP (fun _ X => X.elim) ?aF ?aO ?aB ?aS ?aL ?_; (case aP => exact rfl); (case aB => exact ZC); (case aF => exact FE); (case aO => exact (qR r_.out)); (case aS => exact VC); (case aL => have := Nq.out; omega); intro Kw Pu ho G hg O1; rw [← Sq.out] at ho; replace o0 := am (U6 (bq o0.out) hg (Kd.n9 r_.out o0.out (by decide))); replace N5 := am (Kd.QB (ok := (fun _ => True)) (qR N5.out) hg O1); replace I := am (G); have VT := am (ho); clear r_; clear ho G hg O1; obtain ⟨Mr, Rt, Gu, dk3, dz4, dx3, Ry, Cq, ac5, dk7, eu8, dq9⟩ := S1 o0.out) | ((with_reducible refine H2 (f := 37) rfl ?_); refine G2 (some 70) rfl rfl Try.func37 (by kernel_rfl) rfl #[.int .i64 ((U l0 D0).f1)] rfl F2 ?_; (with_reducible refine (JC.calls ((U l0 D0).f1) false _ A54.out).mono ?_); rintro e w' ⟨rfl, ⟨nd, rfl⟩⟩; refine ⟨_, rfl, ?_⟩) | ((with_reducible refine O_ (b := .append) (xs := #[.tmp 72, .tmp 76]) rfl ?_); at_builtin; refine Kd.IE (Kd.int .u8) (w0 := w) w.heap.size rfl (.tmp 72) (.tmp 76) 39 5 (.int .u8 0) 1 rfl Try.underlying39 OA rfl (by decide) (by omega) Kw EC (((U l0 D0).f4) % 256) [.int .u8 (((U l0 D0).f4) % 256)] (fun k_ => some k_ ≠ (.slice mO t104.length RO : Value).ownBlock) (fun _ => False) rfl rfl ?aP (fun _ X => X.elim) ?aF ?aO ?aB ?aS ?aL ?_; (case aP => exact rfl); (case aB => exact ZC); (case aF => exact FE); (case aO => exact (qR VT.out)); (case aS => exact VC); (case aL => have := ay2.out; omega); intro ff0 w77 ho G hg O1; rw [← bj1.out] at ho; replace o0 := am (U6 (bq o0.out) hg (Kd.n9 VT.out o0.out (by decide))); replace N5 := am (Kd.QB (ok := (fun _ => True)) (qR N5.out) hg O1); replace I := am (G); have by6 := am (ho); clear VT; clear ho G hg O1)); go_roundg k1
    case measure => have := S4.out; omega
    case rel => exact ⟨(Xq), (wrap64 ((wrap64 (16 * ((U l0 D0).f1))) + ((U l0 D0).f2))), (wrap64 (D0 + 1)), (by rfl), (by rfl), H', ⟨C_⟩, ⟨qR (Kd.Y5 by6.out (fun _ X => trivial))⟩, ⟨S0 Q0 I.out⟩⟩
   rw [if_neg AC] at H; have Ua : ((wrap64 ((wrap64 (16 * ((U l0 D0).f1))) + ((U l0 D0).f2))) == E0) = false := beq_eq_false_iff_ne.mpr AC; have Aj : ((wrap64 ((wrap64 (16 * ((U l0 D0).f1))) + ((U l0 D0).f2))) != E0) = true := bne_iff_ne.mpr AC; by_cases oW : R3.length < 140737488355328; rotate_left
   ·rw [if_neg oW] at H; exact absurd H (by simp)
   rw [if_pos oW] at H; have Qs := am oW; clear oW; obtain ⟨yF, Wc⟩ : ∃ y_ : List Int, y_ = (R3 ++ [(wrap64 ((wrap64 (16 * ((U l0 D0).f1))) + ((U l0 D0).f2))) % 256]) := ⟨_, rfl⟩
   replace H : (if yF.length < 140737488355328 then ((some (yF ++ [((U l0 D0).f3) % 256] : List Int)).bind fun mB => ((JC.f ((U l0 D0).f1)).bind fun yC => (if yC = true then (z5.l0 k1 mB (wrap64 ((wrap64 (16 * ((U l0 D0).f1))) + ((U l0 D0).f2))) l0 (l0.length : Int) (wrap64 (D0 + 1))) else (if mB.length < 140737488355328 then (z5.l0 k1 (mB ++ [((U l0 D0).f4) % 256]) (wrap64 ((wrap64 (16 * ((U l0 D0).f1))) + ((U l0 D0).f2))) l0 (l0.length : Int) (wrap64 (D0 + 1))) else (none))))) else (none)) = some (r1, r2) := by (have S6 := (Option.bind_some _ _).symm.trans H; rw [Wc]; with_reducible exact S6)
   have Uv := am Wc; clear Wc; by_cases FY : yF.length < 140737488355328; rotate_left
   ·rw [if_neg FY] at H; exact absurd H (by simp)
   rw [if_pos FY] at H; have Vn := am FY; clear FY; obtain ⟨mB, Kf⟩ : ∃ y_ : List Int, y_ = (yF ++ [((U l0 D0).f3) % 256]) := ⟨_, rfl⟩
   replace H : ((JC.f ((U l0 D0).f1)).bind fun yC => (if yC = true then (z5.l0 k1 mB (wrap64 ((wrap64 (16 * ((U l0 D0).f1))) + ((U l0 D0).f2))) l0 (l0.length : Int) (wrap64 (D0 + 1))) else (if mB.length < 140737488355328 then (z5.l0 k1 (mB ++ [((U l0 D0).f4) % 256]) (wrap64 ((wrap64 (16 * ((U l0 D0).f1))) + ((U l0 D0).f2))) l0 (l0.length : Int) (wrap64 (D0 + 1))) else (none)))) = some (r1, r2) := by (have S6 := (Option.bind_some _ _).symm.trans H; rw [Kf]; with_reducible exact S6)
   have Kx := am Kf; clear Kf; replace H := L2 H; obtain ⟨yC, aa6, H⟩ := H; have VF := am aa6; clear aa6; by_cases gW : yC = true
   ·subst gW; have H1 : (z5.l0 k1 mB (wrap64 ((wrap64 (16 * ((U l0 D0).f1))) + ((U l0 D0).f2))) l0 (l0.length : Int) (wrap64 (D0 + 1))) = some (r1, r2) := by rw [if_pos rfl] at H; exact H
    clear H; have H := H1; clear H1; have H' := am H; clear H; have N4 : 0 ≤ (D0 : Int) := of_decide_eq_true R1; have M4 : D0 < (l0.length : Int) := of_decide_eq_true R1; obtain ⟨P6, H9, F7, S7, Q7, P7, R7, U7⟩ := jA J_.out D0 N4 M4; cases H9; replace F7 := W0 I.out F7; replace S7 := W0 I.out S7; replace Q7 := W0 I.out Q7; replace P7 := W0 I.out P7; replace R7 := W0 I.out R7; replace U7 := W0 I.out U7; replace N4 := eq_true N4; replace M4 := eq_true M4; go_wp2_with (first | ((with_reducible refine P2 (N := 7) rfl ?_); refine D3 ?hg (N := 7) ?hd (cs := #[.int .i64 0, .int .i64 0, .int .i64 0, .int .i64 0, .int .i64 0, .string (⟨#[]⟩ : ByteArray)]) (t := 28) ?hr ?_; (case hd => rfl); (case hg => rfl); (case hr => exact Z2); intro K0 hg w82 M0 G; replace I5 := am (Kd.j7 (qR I5.out) G); have o0 := am (M0); have YA := am ((U2 : w.heap.size ≤ K0)); have Q0 := am ((U2 : w.heap.size ≤ K0)); replace I := am (T0 (qB I.out) G); clear G M0 hg; obtain ⟨av6, bw5, bu7, ce6, au6, ch7, bs7, bg5, be0, bo1, cg7, bl8⟩ := S1 o0.out) | ((with_reducible refine H2 (f := 35) rfl ?_); refine G2 (some 16) rfl rfl Try.func35 (by kernel_rfl) rfl #[.agg #[.int .i64 ((U l0 D0).f0), .int .i64 ((U l0 D0).f1), .int .i64 ((U l0 D0).f2), .int .i64 ((U l0 D0).f3), .int .i64 ((U l0 D0).f4), .string ((U l0 D0).f5)]] rfl F2 ?_; (with_reducible refine (K3.calls k1 ((U l0 D0).f0) ((U l0 D0).f1) ((U l0 D0).f2) ((U l0 D0).f3) ((U l0 D0).f4) ((U l0 D0).f5) true _ A5.out).mono ?_); rintro e w84 ⟨rfl, G⟩; refine ⟨_, rfl, ?_⟩; replace I5 := am (Kd.j7 qP G); replace o0 := am (O0 (g := K0) (o := .cells #[.int .i64 ((U l0 D0).f0), .int .i64 ((U l0 D0).f1), .int .i64 ((U l0 D0).f2), .int .i64 ((U l0 D0).f3), .int .i64 ((U l0 D0).f4), .string ((U l0 D0).f5)] 28 (0, 0)) (by refine bq ?_; refine J0 (cs := #[.int .i64 ((U l0 D0).f0), .int .i64 ((U l0 D0).f1), .int .i64 ((U l0 D0).f2), .int .i64 ((U l0 D0).f3), .int .i64 ((U l0 D0).f4), .string (⟨#[]⟩ : ByteArray)]) ?_ 5 _ rfl; refine bq ?_; refine J0 (cs := #[.int .i64 ((U l0 D0).f0), .int .i64 ((U l0 D0).f1), .int .i64 ((U l0 D0).f2), .int .i64 ((U l0 D0).f3), .int .i64 0, .string (⟨#[]⟩ : ByteArray)]) ?_ 4 _ rfl; refine bq ?_; refine J0 (cs := #[.int .i64 ((U l0 D0).f0), .int .i64 ((U l0 D0).f1), .int .i64 ((U l0 D0).f2), .int .i64 0, .int .i64 0, .string (⟨#[]⟩ : ByteArray)]) ?_ 3 _ rfl; refine bq ?_; refine J0 (cs := #[.int .i64 ((U l0 D0).f0), .int .i64 ((U l0 D0).f1), .int .i64 0, .int .i64 0, .int .i64 0, .string (⟨#[]⟩ : ByteArray)]) ?_ 2 _ rfl; refine bq ?_; refine J0 (cs := #[.int .i64 ((U l0 D0).f0), .int .i64 0, .int .i64 0, .int .i64 0, .int .i64 0, .string (⟨#[]⟩ : ByteArray)]) ?_ 1 _ rfl; refine bq ?_; refine J0 (cs := #[.int .i64 0, .int .i64 0, .int .i64 0, .int .i64 0, .int .i64 0, .string (⟨#[]⟩ : ByteArray)]) ?_ 0 _ rfl; exact bq o0.out) G); replace I := am (T0 (S0 Q0 I.out) G); obtain ⟨ci2, be9, bu8, cf4, bs5, cb9, be6, cf3, ba0, at9, cc2, br0⟩ := S1 o0.out) | ((with_reducible refine H2 (f := 36) rfl ?_); refine G2 (some 21) rfl rfl Try.func36 (by kernel_rfl) rfl #[.int .i64 ((U l0 D0).f0)] rfl F2 ?_; (with_reducible refine (o_.calls ((U l0 D0).f0) t104 _ A7.out).mono ?_); rintro e w86 ⟨yN, rfl, T3, G⟩; refine ⟨_, rfl, ?_⟩; have N5 := am (Kd.j9 (Kd.iF T3 (Kd.D_ (qR I5.out))) (S3 (S0 Q0 I.out))); replace I5 := am (Kd.kF (qR I5.out) (Kd.A_ T3) G); replace o0 := am (O0 (bq o0.out) G); replace I := am (T0 (S0 Q0 I.out) G); obtain ⟨Kb, Pk, ci6⟩ := Kd.Q9 N5.out; subst ci6) | ((with_reducible refine O_ (b := .append) (xs := #[.tmp 18, .tmp 21]) rfl ?_); at_builtin; refine Kd.jJ (Kd.int .u8) (w0 := w) w.heap.size rfl (.tmp 18) (.tmp 21) 39 5 (.int .u8 0) 1 rfl Try.underlying39 OA rfl (by decide) (by omega) u4 V0 t104 _ _ _ (fun k_ => some k_ ≠ (.slice Kb t104.length Pk : Value).ownBlock) (fun _ => False) rfl rfl ?aO ?aR (fun _ _ h => h) (fun _ h => h.elim) ?aF ?aB ?aS ?aL ?_; (case aR => exact CR); (case aB => exact ZC); (case aF => exact FE); (case aO => exact yR); (case aS => exact VC); (case aL => have := PL.out; omega); intro kG w87 ho G hg O1; rw [← MG.out] at ho; replace o0 := am (U6 (bq o0.out) hg (Kd.n9 I5.out o0.out (by decide))); replace N5 := am (Kd.QB (ok := (fun _ => True)) (qR N5.out) hg O1); replace I := am (G); have r_ := am (ho); clear I5; clear ho G hg O1; obtain ⟨ey6, ei5, eo8, db7, fm8, db3, ff8, ec6, fs1, fr9, fb5, fl4⟩ := S1 o0.out) | ((with_reducible refine O_ (b := .append) (xs := #[.tmp 57, .tmp 60]) rfl ?_); at_builtin; refine Kd.IE (Kd.int .u8) (w0 := w) w.heap.size rfl (.tmp 57) (.tmp 60) 39 5 (.int .u8 0) 1 rfl Try.underlying39 OA rfl (by decide) (by omega) kG R3 ((wrap64 ((wrap64 (16 * ((U l0 D0).f1))) + ((U l0 D0).f2))) % 256) [.int .u8 ((wrap64 ((wrap64 (16 * ((U l0 D0).f1))) + ((U l0 D0).f2))) % 256)] (fun k_ => some k_ ≠ (.slice Kb t104.length Pk : Value).ownBlock) (fun _ => False) rfl rfl ?aP (fun _ X => X.elim) ?aF ?aO ?aB ?aS ?aL ?_; (case aP => exact rfl); (case aB => exact ZC); (case aF => exact FE); (case aO => exact (qR r_.out)); (case aS => exact VC); (case aL => have := Qs.out; omega); intro La w90 ho G hg O1; rw [← Uv.out] at ho; replace o0 := am (U6 (bq o0.out) hg (Kd.n9 r_.out o0.out (by decide))); replace N5 := am (Kd.QB (ok := (fun _ => True)) (qR N5.out) hg O1); replace I := am (G); have nN := am (ho); clear r_; clear ho G hg O1; obtain ⟨ef5, do8, dv7, dv3, fr1, dt2, ds5, fi4, fi6, du4, di4, fk5⟩ := S1 o0.out) | ((with_reducible refine O_ (b := .append) (xs := #[.tmp 62, .tmp 66]) rfl ?_); at_builtin; refine Kd.IE (Kd.int .u8) (w0 := w) w.heap.size rfl (.tmp 62) (.tmp 66) 39 5 (.int .u8 0) 1 rfl Try.underlying39 OA rfl (by decide) (by omega) La yF (((U l0 D0).f3) % 256) [.int .u8 (((U l0 D0).f3) % 256)] (fun k_ => some k_ ≠ (.slice Kb t104.length Pk : Value).ownBlock) (fun _ => False) rfl rfl ?aP (fun _ X => X.elim) ?aF ?aO ?aB ?aS ?aL ?_; (case aP => exact rfl); (case aB => exact ZC); (case aF => exact FE); (case aO => exact (qR nN.out)); (case aS => exact VC); (case aL => have := Vn.out; omega); intro Hw w92 ho G hg O1; rw [← Kx.out] at ho; replace o0 := am (U6 (bq o0.out) hg (Kd.n9 nN.out o0.out (by decide))); replace N5 := am (Kd.QB (ok := (fun _ => True)) (qR N5.out) hg O1); replace I := am (G); have cS := am (ho); clear nN; clear ho G hg O1; obtain ⟨fl9, eq0, dy1, du5, du9, em2, eq6, ff4, dm0, dh3, ex6, de9⟩ := S1 o0.out) | ((with_reducible refine H2 (f := 37) rfl ?_); refine G2 (some 70) rfl rfl Try.func37 (by kernel_rfl) rfl #[.int .i64 ((U l0 D0).f1)] rfl F2 ?_; (with_reducible refine (JC.calls ((U l0 D0).f1) true _ VF.out).mono ?_); rintro e w' ⟨rfl, ⟨nd, rfl⟩⟩; refine ⟨_, rfl, ?_⟩)); go_roundg k1
    case measure => have := S4.out; omega
    case rel => exact ⟨(mB), (wrap64 ((wrap64 (16 * ((U l0 D0).f1))) + ((U l0 D0).f2))), (wrap64 (D0 + 1)), (by rfl), (by rfl), H', ⟨C_⟩, ⟨qR (Kd.Y5 cS.out (fun _ X => trivial))⟩, ⟨S0 Q0 I.out⟩⟩
   replace gW := Bool.eq_false_iff.mpr gW; subst gW; have H1 : (if mB.length < 140737488355328 then (z5.l0 k1 (mB ++ [((U l0 D0).f4) % 256]) (wrap64 ((wrap64 (16 * ((U l0 D0).f1))) + ((U l0 D0).f2))) l0 (l0.length : Int) (wrap64 (D0 + 1))) else (none)) = some (r1, r2) := by rw [if_neg (show ¬ (false = true) by decide)] at H; exact H
   clear H; have H := H1; clear H1; by_cases HW : mB.length < 140737488355328; rotate_left
   ·rw [if_neg HW] at H; exact absurd H (by simp)
   rw [if_pos HW] at H; have bc3 := am HW; clear HW; obtain ⟨Aq, Ca⟩ : ∃ y_ : List Int, y_ = (mB ++ [((U l0 D0).f4) % 256]) := ⟨_, rfl⟩
   replace H : (z5.l0 k1 Aq (wrap64 ((wrap64 (16 * ((U l0 D0).f1))) + ((U l0 D0).f2))) l0 (l0.length : Int) (wrap64 (D0 + 1))) = some (r1, r2) := by (rw [Ca]; with_reducible exact H)
   have az4 := am Ca; clear Ca; have H' := am H; clear H; have N4 : 0 ≤ (D0 : Int) := of_decide_eq_true R1; have M4 : D0 < (l0.length : Int) := of_decide_eq_true R1; obtain ⟨P6, H9, F7, S7, Q7, P7, R7, U7⟩ := jA J_.out D0 N4 M4; cases H9; replace F7 := W0 I.out F7; replace S7 := W0 I.out S7; replace Q7 := W0 I.out Q7; replace P7 := W0 I.out P7; replace R7 := W0 I.out R7; replace U7 := W0 I.out U7; replace N4 := eq_true N4; replace M4 := eq_true M4; go_wp2_with (first | ((with_reducible refine P2 (N := 7) rfl ?_); refine D3 ?hg (N := 7) ?hd (cs := #[.int .i64 0, .int .i64 0, .int .i64 0, .int .i64 0, .int .i64 0, .string (⟨#[]⟩ : ByteArray)]) (t := 28) ?hr ?_; (case hd => rfl); (case hg => rfl); (case hr => exact Z2); intro K0 hg w95 M0 G; replace I5 := am (Kd.j7 (qR I5.out) G); have o0 := am (M0); have YA := am ((U2 : w.heap.size ≤ K0)); have Q0 := am ((U2 : w.heap.size ≤ K0)); replace I := am (T0 (qB I.out) G); clear G M0 hg; obtain ⟨em7, eo0, dw3, dq6, ez9, dp6, fm3, de0, dd9, fq5, dp8, dc5⟩ := S1 o0.out) | ((with_reducible refine H2 (f := 35) rfl ?_); refine G2 (some 16) rfl rfl Try.func35 (by kernel_rfl) rfl #[.agg #[.int .i64 ((U l0 D0).f0), .int .i64 ((U l0 D0).f1), .int .i64 ((U l0 D0).f2), .int .i64 ((U l0 D0).f3), .int .i64 ((U l0 D0).f4), .string ((U l0 D0).f5)]] rfl F2 ?_; (with_reducible refine (K3.calls k1 ((U l0 D0).f0) ((U l0 D0).f1) ((U l0 D0).f2) ((U l0 D0).f3) ((U l0 D0).f4) ((U l0 D0).f5) true _ A5.out).mono ?_); rintro e w97 ⟨rfl, G⟩; refine ⟨_, rfl, ?_⟩; replace I5 := am (Kd.j7 qP G); replace o0 := am (O0 (g := K0) (o := .cells #[.int .i64 ((U l0 D0).f0), .int .i64 ((U l0 D0).f1), .int .i64 ((U l0 D0).f2), .int .i64 ((U l0 D0).f3), .int .i64 ((U l0 D0).f4), .string ((U l0 D0).f5)] 28 (0, 0)) (by refine bq ?_; refine J0 (cs := #[.int .i64 ((U l0 D0).f0), .int .i64 ((U l0 D0).f1), .int .i64 ((U l0 D0).f2), .int .i64 ((U l0 D0).f3), .int .i64 ((U l0 D0).f4), .string (⟨#[]⟩ : ByteArray)]) ?_ 5 _ rfl; refine bq ?_; refine J0 (cs := #[.int .i64 ((U l0 D0).f0), .int .i64 ((U l0 D0).f1), .int .i64 ((U l0 D0).f2), .int .i64 ((U l0 D0).f3), .int .i64 0, .string (⟨#[]⟩ : ByteArray)]) ?_ 4 _ rfl; refine bq ?_; refine J0 (cs := #[.int .i64 ((U l0 D0).f0), .int .i64 ((U l0 D0).f1), .int .i64 ((U l0 D0).f2), .int .i64 0, .int .i64 0, .string (⟨#[]⟩ : ByteArray)]) ?_ 3 _ rfl; refine bq ?_; refine J0 (cs := #[.int .i64 ((U l0 D0).f0), .int .i64 ((U l0 D0).f1), .int .i64 0, .int .i64 0, .int .i64 0, .string (⟨#[]⟩ : ByteArray)]) ?_ 2 _ rfl; refine bq ?_; refine J0 (cs := #[.int .i64 ((U l0 D0).f0), .int .i64 0, .int .i64 0, .int .i64 0, .int .i64 0, .string (⟨#[]⟩ : ByteArray)]) ?_ 1 _ rfl; refine bq ?_; refine J0 (cs := #[.int .i64 0, .int .i64 0, .int .i64 0, .int .i64 0, .int .i64 0, .string (⟨#[]⟩ : ByteArray)]) ?_ 0 _ rfl; exact bq o0.out) G); replace I := am (T0 (S0 Q0 I.out) G); obtain ⟨bl7, bt1, bu9, fc9, fj7, dl4, cg2, bh8, au9, fc5, ex3, dh1⟩ := S1 o0.out) | ((with_reducible refine H2 (f := 36) rfl ?_); refine G2 (some 21) rfl rfl Try.func36 (by kernel_rfl) rfl #[.int .i64 ((U l0 D0).f0)] rfl F2 ?_; (with_reducible refine (o_.calls ((U l0 D0).f0) t104 _ A7.out).mono ?_); rintro e w99 ⟨yN, rfl, T3, G⟩; refine ⟨_, rfl, ?_⟩; have N5 := am (Kd.j9 (Kd.iF T3 (Kd.D_ (qR I5.out))) (S3 (S0 Q0 I.out))); replace I5 := am (Kd.kF (qR I5.out) (Kd.A_ T3) G); replace o0 := am (O0 (bq o0.out) G); replace I := am (T0 (S0 Q0 I.out) G); obtain ⟨AW, FX, bk0⟩ := Kd.Q9 N5.out; subst bk0) | ((with_reducible refine O_ (b := .append) (xs := #[.tmp 18, .tmp 21]) rfl ?_); at_builtin; refine Kd.jJ (Kd.int .u8) (w0 := w) w.heap.size rfl (.tmp 18) (.tmp 21) 39 5 (.int .u8 0) 1 rfl Try.underlying39 OA rfl (by decide) (by omega) u4 V0 t104 _ _ _ (fun k_ => some k_ ≠ (.slice AW t104.length FX : Value).ownBlock) (fun _ => False) rfl rfl ?aO ?aR (fun _ _ h => h) (fun _ h => h.elim) ?aF ?aB ?aS ?aL ?_; (case aR => exact CR); (case aB => exact ZC); (case aF => exact FE); (case aO => exact yR); (case aS => exact VC); (case aL => have := PL.out; omega); intro kG bz0 ho G hg O1; rw [← MG.out] at ho; replace o0 := am (U6 (bq o0.out) hg (Kd.n9 I5.out o0.out (by decide))); replace N5 := am (Kd.QB (ok := (fun _ => True)) (qR N5.out) hg O1); replace I := am (G); have r_ := am (ho); clear I5; clear ho G hg O1; obtain ⟨em4, di9, dv6, dt8, df1, fg8, fm9, em5, ez4, ei1, fg4, eu6⟩ := S1 o0.out) | ((with_reducible refine O_ (b := .append) (xs := #[.tmp 57, .tmp 60]) rfl ?_); at_builtin; refine Kd.IE (Kd.int .u8) (w0 := w) w.heap.size rfl (.tmp 57) (.tmp 60) 39 5 (.int .u8 0) 1 rfl Try.underlying39 OA rfl (by decide) (by omega) kG R3 ((wrap64 ((wrap64 (16 * ((U l0 D0).f1))) + ((U l0 D0).f2))) % 256) [.int .u8 ((wrap64 ((wrap64 (16 * ((U l0 D0).f1))) + ((U l0 D0).f2))) % 256)] (fun k_ => some k_ ≠ (.slice AW t104.length FX : Value).ownBlock) (fun _ => False) rfl rfl ?aP (fun _ X => X.elim) ?aF ?aO ?aB ?aS ?aL ?_; (case aP => exact rfl); (case aB => exact ZC); (case aF => exact FE); (case aO => exact (qR r_.out)); (case aS => exact VC); (case aL => have := Qs.out; omega); intro La eq1 ho G hg O1; rw [← Uv.out] at ho; replace o0 := am (U6 (bq o0.out) hg (Kd.n9 r_.out o0.out (by decide))); replace N5 := am (Kd.QB (ok := (fun _ => True)) (qR N5.out) hg O1); replace I := am (G); have nN := am (ho); clear r_; clear ho G hg O1; obtain ⟨em6, fq3, eo4, dr5, ey9, eb7, fh6, dn6, fj1, ey3, dc6, dc7⟩ := S1 o0.out) | ((with_reducible refine O_ (b := .append) (xs := #[.tmp 62, .tmp 66]) rfl ?_); at_builtin; refine Kd.IE (Kd.int .u8) (w0 := w) w.heap.size rfl (.tmp 62) (.tmp 66) 39 5 (.int .u8 0) 1 rfl Try.underlying39 OA rfl (by decide) (by omega) La yF (((U l0 D0).f3) % 256) [.int .u8 (((U l0 D0).f3) % 256)] (fun k_ => some k_ ≠ (.slice AW t104.length FX : Value).ownBlock) (fun _ => False) rfl rfl ?aP (fun _ X => X.elim) ?aF ?aO ?aB ?aS ?aL ?_; (case aP => exact rfl); (case aB => exact ZC); (case aF => exact FE); (case aO => exact (qR nN.out)); (case aS => exact VC); (case aL => have := Vn.out; omega); intro Hw ck5 ho G hg O1; rw [← Kx.out] at ho; replace o0 := am (U6 (bq o0.out) hg (Kd.n9 nN.out o0.out (by decide))); replace N5 := am (Kd.QB (ok := (fun _ => True)) (qR N5.out) hg O1); replace I := am (G); have cS := am (ho); clear nN; clear ho G hg O1; obtain ⟨bw0, bg9, by2, fm1, eu7, en3, ca8, bo9, bo0, dn8, dg7, fk3⟩ := S1 o0.out) | ((with_reducible refine H2 (f := 37) rfl ?_); refine G2 (some 70) rfl rfl Try.func37 (by kernel_rfl) rfl #[.int .i64 ((U l0 D0).f1)] rfl F2 ?_; (with_reducible refine (JC.calls ((U l0 D0).f1) false _ VF.out).mono ?_); rintro e w' ⟨rfl, ⟨nd, rfl⟩⟩; refine ⟨_, rfl, ?_⟩) | ((with_reducible refine O_ (b := .append) (xs := #[.tmp 72, .tmp 76]) rfl ?_); at_builtin; refine Kd.IE (Kd.int .u8) (w0 := w) w.heap.size rfl (.tmp 72) (.tmp 76) 39 5 (.int .u8 0) 1 rfl Try.underlying39 OA rfl (by decide) (by omega) Hw mB (((U l0 D0).f4) % 256) [.int .u8 (((U l0 D0).f4) % 256)] (fun k_ => some k_ ≠ (.slice AW t104.length FX : Value).ownBlock) (fun _ => False) rfl rfl ?aP (fun _ X => X.elim) ?aF ?aO ?aB ?aS ?aL ?_; (case aP => exact rfl); (case aB => exact ZC); (case aF => exact FE); (case aO => exact (qR cS.out)); (case aS => exact VC); (case aL => have := bc3.out; omega); intro ex7 ax9 ho G hg O1; rw [← az4.out] at ho; replace o0 := am (U6 (bq o0.out) hg (Kd.n9 cS.out o0.out (by decide))); replace N5 := am (Kd.QB (ok := (fun _ => True)) (qR N5.out) hg O1); replace I := am (G); have bo7 := am (ho); clear cS; clear ho G hg O1)); go_roundg k1
   case measure => have := S4.out; omega
   case rel => exact ⟨(Aq), (wrap64 ((wrap64 (16 * ((U l0 D0).f1))) + ((U l0 D0).f2))), (wrap64 (D0 + 1)), (by rfl), (by rfl), H', ⟨C_⟩, ⟨qR (Kd.Y5 bo7.out (fun _ X => trivial))⟩, ⟨S0 Q0 I.out⟩⟩
def nF.f (k : Nat) (I0 : Int) (C0 : Int) (i1 : Int) (X0 : Int) (N1 : Int) (Z0 : ByteArray) : Option (Bool) := (K3.f k I0 C0 i1 X0 N1 Z0).bind fun t102 => (some (!t102))
theorem nF.mono : ∀ a0 a1 a2 a3 a4 a5 k, F0 (nF.f k a0 a1 a2 a3 a4 a5) (nF.f (k + 1) a0 a1 a2 a3 a4 a5) := by
 intro a0 a1 a2 a3 a4 a5 k
 unfold nF.f
 repeat' first
  | (with_reducible exact K3.mono _ _ _ _ _ _ _)
  | (with_reducible exact F0.refl _)
  | (with_reducible exact F0.none _)
  | (with_reducible refine F0.ite ?_ ?_)
  | (with_reducible refine F0.bind ?_ (fun _ => ?_))
  | exact K3.mono _ _ _ _ _ _ _
  | exact F0.none _
  | refine F0.ite ?_ ?_
  | refine F0.bind ?_ (fun _ => ?_)
set_option maxHeartbeats 8000000 in
set_option maxRecDepth 100000 in
theorem nF.calls (k : Nat) (I0 : Int) (C0 : Int) (i1 : Int) (X0 : Int) (N1 : Int) (Z0 : ByteArray) (r : Bool) (w : World) (h : nF.f k I0 C0 i1 X0 N1 Z0 = some r) :
 Calls Try.prog 38 #[.agg #[.int .i64 I0, .int .i64 C0, .int .i64 i1, .int .i64 X0, .int .i64 N1, .string Z0]] w fun e w' => e = .returned (.bool r) ∧ Below w.heap.size w w' := by
 have WB := Try.underlying28; have I := am (Below.refl w.heap.size w); have H := h; unfold nF.f at H; clear h; replace H := L2 H; obtain ⟨t102, f_, H⟩ := H; try dsimp -simprocs only at H
 have A2 := am f_; clear f_; obtain rfl := Option.some.inj H; go_enter Try.func38, Try.ntmps38; go_wp2_with (first | ((with_reducible refine P2 (N := 1) rfl ?_); refine D3 ?hg (N := 1) ?hd (cs := #[.int .i64 I0, .int .i64 C0, .int .i64 i1, .int .i64 X0, .int .i64 N1, .string Z0]) (t := 28) ?hr ?_; (case hd => rfl); (case hg => rfl); (case hr => exact Y9); intro n0 hg w3 M0 G; have Y := am (M0); have W6 := am ((U2 : w.heap.size ≤ n0)); have H0 := am ((U2 : w.heap.size ≤ n0)); replace I := am (T0 (qB I.out) G); clear G M0 hg; obtain ⟨aT, yT, vS, ad7, bt4, az6, BU, GS, RT, Lp, bm8, ch5⟩ := S1 Y.out) | ((with_reducible refine H2 (f := 35) rfl ?_); refine G2 (some 4) rfl rfl Try.func35 (by kernel_rfl) rfl #[.agg #[.int .i64 I0, .int .i64 C0, .int .i64 i1, .int .i64 X0, .int .i64 N1, .string Z0]] rfl L9 ?_; (with_reducible refine (K3.calls k I0 C0 i1 X0 N1 Z0 t102 _ A2.out).mono ?_); rintro e w5 ⟨rfl, G⟩; refine ⟨_, rfl, ?_⟩; replace Y := am (O0 (bq Y.out) G); replace I := am (T0 (S0 H0 I.out) G); (try clear G); (try clear C5); (try clear X); (try clear hi))); go_ret; exact ⟨L_, S0 H0 I.out⟩
def yA.l0 : Nat → List (N0) → Int → Int → Option (Int)
 | 0, _, _, _ => none
 | k + 1, x0, x7, x8 => if x8 < x7 then (if 0 ≤ x8 then (if x8 < (x0.length : Int) then ((nF.f k ((U x0 x8).f0) ((U x0 x8).f1) ((U x0 x8).f2) ((U x0 x8).f3) ((U x0 x8).f4) ((U x0 x8).f5)).bind fun t102 => (if t102 = true then (some x8) else (yA.l0 k x0 x7 (wrap64 (x8 + 1))))) else (none)) else (none)) else (some (-1))
def yA.f (k : Nat) (l0 : List (N0)) : Option (Int) := yA.l0 k l0 (l0.length : Int) 0
theorem yA.mono_l : ∀ k, (∀ y0 y1 y2, F0 (yA.l0 k y0 y1 y2) (yA.l0 (k + 1) y0 y1 y2))
 | 0 => fun _ _ _ r h => by simp [yA.l0] at h
 | k + 1 => by
  have O2 := yA.mono_l k
  ·intro y0 y1 y2
   unfold yA.l0
   repeat' first
   | (with_reducible exact O2 _ _ _)
   | (with_reducible exact nF.mono _ _ _ _ _ _ _)
   | (with_reducible exact F0.refl _)
   | (with_reducible exact F0.none _)
   | (with_reducible refine F0.ite ?_ ?_)
   | (with_reducible refine F0.bind ?_ (fun _ => ?_))
   | exact O2 _ _ _
   | exact nF.mono _ _ _ _ _ _ _
   | exact F0.none _
   | refine F0.ite ?_ ?_
   | refine F0.bind ?_ (fun _ => ?_)
theorem yA.mono : ∀ a0 k, F0 (yA.f k a0) (yA.f (k + 1) a0) := by
 intro a0 k
 have O2 := yA.mono_l k
 unfold yA.f
 repeat' first
  | (with_reducible exact O2 _ _ _)
  | (with_reducible exact nF.mono _ _ _ _ _ _ _)
  | (with_reducible exact F0.refl _)
  | (with_reducible exact F0.none _)
  | (with_reducible refine F0.ite ?_ ?_)
  | (with_reducible refine F0.bind ?_ (fun _ => ?_))
  | exact O2 _ _ _
  | exact nF.mono _ _ _ _ _ _ _
  | exact F0.none _
  | refine F0.ite ?_ ?_
  | refine F0.bind ?_ (fun _ => ?_)
set_option maxHeartbeats 8000000 in
set_option maxRecDepth 100000 in
theorem yA.calls (k : Nat) (A0 : Option Addr) (c0 : Nat) (l0 : List (N0)) (r : Int) (w : World) (oB : Kd.C L3 w A0 l0.length l0) (i_ : l0.length ≤ c0) (h : yA.f k l0 = some r) :
 Calls Try.prog 60 #[.slice A0 l0.length c0, .func (.func 38) #[] #[]] w fun e w' => e = .returned (.int .i64 r) ∧ Below w.heap.size w w' := by
 have WB := Try.underlying28; have J_ := am oB; have FJ := am i_; clear oB i_; have I := am (Below.refl w.heap.size w); have H := h; unfold yA.f at H; clear h; have H' := am H; clear H; go_enter Try.func60, Try.ntmps60; go_wp2; go_loopg [8] k (fun kq v8 w' => ∃ (P1 : Int), v8 = .int .i64 P1 ∧ Aside0 (yA.l0 kq l0 (l0.length : Int) P1 = some r) ∧ Aside0 (kq ≤ k) ∧ Aside0 (Below w.heap.size w w'))
 case atStart => exact ⟨(0), o6, H', ⟨Nat.le_refl _⟩, ⟨qB I.out⟩⟩
 case round =>
  clear H'; obtain ⟨P1, rfl, HA, S4, I⟩ := hrel; cases gk with
  | zero => exact absurd HA.out (by simp [yA.l0])
  | succ k1 =>
   have H := HA.out; clear HA; simp only [yA.l0] at H; by_cases c2 : P1 < (l0.length : Int); rotate_left
   ·rw [if_neg c2] at H; have G9 : decide (P1 < (l0.length : Int)) = false := decide_eq_false c2; clear c2; obtain rfl := Option.some.inj H; go_wp2; go_ret; exact ⟨L_, qB I.out⟩
   rw [if_pos c2] at H; have G9 : decide (P1 < (l0.length : Int)) = true := decide_eq_true c2; clear c2; by_cases c3 : 0 ≤ P1; rotate_left
   ·rw [if_neg c3] at H; exact absurd H (by simp)
   rw [if_pos c3] at H; have S8 : decide (0 ≤ P1) = true := decide_eq_true c3; clear c3; by_cases c4 : P1 < (l0.length : Int); rotate_left
   ·rw [if_neg c4] at H; exact absurd H (by simp)
   rw [if_pos c4] at H; have T7 : decide (P1 < (l0.length : Int)) = true := decide_eq_true c4; clear c4; replace H := L2 H; obtain ⟨t102, v_, H⟩ := H; try dsimp -simprocs only at H
   have A5 := am v_; clear v_; by_cases c6 : t102 = true
   ·subst c6; have H1 : (some P1) = some r := by rw [if_pos rfl] at H; exact H
    clear H; have H := H1; clear H1; obtain rfl := Option.some.inj H; have N4 : 0 ≤ (P1 : Int) := of_decide_eq_true p7; have M4 : P1 < (l0.length : Int) := of_decide_eq_true p7; obtain ⟨P6, H9, F7, S7, Q7, P7, R7, U7⟩ := jA J_.out P1 N4 M4; cases H9; replace F7 := W0 I.out F7; replace S7 := W0 I.out S7; replace Q7 := W0 I.out Q7; replace P7 := W0 I.out P7; replace R7 := W0 I.out R7; replace U7 := W0 I.out U7; replace N4 := eq_true N4; replace M4 := eq_true M4; go_wp2_with ((refine BR (some 16) rfl rfl Try.func38 (by kernel_rfl) rfl #[.agg #[.int .i64 ((U l0 P1).f0), .int .i64 ((U l0 P1).f1), .int .i64 ((U l0 P1).f2), .int .i64 ((U l0 P1).f3), .int .i64 ((U l0 P1).f4), .string ((U l0 P1).f5)]] rfl L9 ?_; (with_reducible refine (nF.calls k1 ((U l0 P1).f0) ((U l0 P1).f1) ((U l0 P1).f2) ((U l0 P1).f3) ((U l0 P1).f4) ((U l0 P1).f5) true _ A5.out).mono ?_); rintro e w7 ⟨rfl, G⟩; refine ⟨_, rfl, ?_⟩; replace I := am (T0 (qB I.out) G); (try clear G); (try clear C5); (try clear X); (try clear hi))); go_ret; exact ⟨L_, qB I.out⟩
   replace c6 := Bool.eq_false_iff.mpr c6; subst c6; have H1 : (yA.l0 k1 l0 (l0.length : Int) (wrap64 (P1 + 1))) = some r := by rw [if_neg (show ¬ (false = true) by decide)] at H; exact H
   clear H; have H := H1; clear H1; have H' := am H; clear H; have N4 : 0 ≤ (P1 : Int) := of_decide_eq_true p7; have M4 : P1 < (l0.length : Int) := of_decide_eq_true p7; obtain ⟨P6, H9, F7, S7, Q7, P7, R7, U7⟩ := jA J_.out P1 N4 M4; cases H9; replace F7 := W0 I.out F7; replace S7 := W0 I.out S7; replace Q7 := W0 I.out Q7; replace P7 := W0 I.out P7; replace R7 := W0 I.out R7; replace U7 := W0 I.out U7; replace N4 := eq_true N4; replace M4 := eq_true M4; go_wp2_with ((refine BR (some 16) rfl rfl Try.func38 (by kernel_rfl) rfl #[.agg #[.int .i64 ((U l0 P1).f0), .int .i64 ((U l0 P1).f1), .int .i64 ((U l0 P1).f2), .int .i64 ((U l0 P1).f3), .int .i64 ((U l0 P1).f4), .string ((U l0 P1).f5)]] rfl L9 ?_; (with_reducible refine (nF.calls k1 ((U l0 P1).f0) ((U l0 P1).f1) ((U l0 P1).f2) ((U l0 P1).f3) ((U l0 P1).f4) ((U l0 P1).f5) false _ A5.out).mono ?_); rintro e w8 ⟨rfl, G⟩; refine ⟨_, rfl, ?_⟩; replace I := am (T0 (qB I.out) G); (try clear G); (try clear C5); (try clear X); (try clear hi))); go_roundg k1
   case measure => have := S4.out; omega
   case rel => exact ⟨(wrap64 (P1 + 1)), o6, H', ⟨C_⟩, ⟨qB I.out⟩⟩
def lH.f (k : Nat) (l0 : List (N0)) : Option (Bool) := (yA.f k l0).bind fun t101 => (some (decide (t101 ≥ 0)))
theorem lH.mono : ∀ a0 k, F0 (lH.f k a0) (lH.f (k + 1) a0) := by
 intro a0 k
 unfold lH.f
 repeat' first
  | (with_reducible exact yA.mono _ _)
  | (with_reducible exact F0.refl _)
  | (with_reducible exact F0.none _)
  | (with_reducible refine F0.ite ?_ ?_)
  | (with_reducible refine F0.bind ?_ (fun _ => ?_))
  | exact yA.mono _ _
  | exact F0.none _
  | refine F0.ite ?_ ?_
  | refine F0.bind ?_ (fun _ => ?_)
set_option maxHeartbeats 8000000 in
set_option maxRecDepth 100000 in
theorem lH.calls (k : Nat) (A0 : Option Addr) (c0 : Nat) (l0 : List (N0)) (r : Bool) (w : World) (oB : Kd.C L3 w A0 l0.length l0) (i_ : l0.length ≤ c0) (h : lH.f k l0 = some r) :
 Calls Try.prog 39 #[.slice A0 l0.length c0, .func (.func 38) #[] #[]] w fun e w' => e = .returned (.bool r) ∧ Below w.heap.size w w' := by
 have J_ := am oB; have FJ := am i_; clear oB i_; have I := am (Below.refl w.heap.size w); have H := h; unfold lH.f at H; clear h; replace H := L2 H; obtain ⟨t101, f_, H⟩ := H; try dsimp -simprocs only at H
 have A2 := am f_; clear f_; obtain rfl := Option.some.inj H; go_enter Try.func39, Try.ntmps39; go_wp2_with (((with_reducible refine H2 (f := 60) rfl ?_); refine G2 (some 7) rfl rfl Try.func60 (by kernel_rfl) rfl #[.slice A0 l0.length c0, .func (.func 38) #[] #[]] rfl L9 ?_; (with_reducible refine (yA.calls k _ _ l0 t101 _ ?side1 ?side2 A2.out).mono ?_); (case side1 => repeat (first | exact J_.out | (with_reducible refine Kd.LA ?_ _) | (with_reducible refine Kd.MA ?_ _) | (with_reducible refine Kd.KA ?_))); (case side2 => exact FJ.out); rintro e w3 ⟨rfl, G⟩; refine ⟨_, rfl, ?_⟩; replace I := am (T0 (qB I.out) G); (try clear G); (try clear C5); (try clear X); (try clear hi))); go_ret; exact ⟨L_, qB I.out⟩
def XM.f (I0 : Int) (C0 : Int) (i1 : Int) (X0 : Int) (N1 : Int) (Z0 : ByteArray) : Option (Bool) := if C0 = 16 then (if X0 = 47 then (some (Z0.toList == ([] : List UInt8))) else (some false)) else (some false)
set_option maxHeartbeats 8000000 in
set_option maxRecDepth 100000 in
theorem XM.calls (I0 : Int) (C0 : Int) (i1 : Int) (X0 : Int) (N1 : Int) (Z0 : ByteArray) (r : Bool) (w : World) (h : XM.f I0 C0 i1 X0 N1 Z0 = some r) :
 Calls Try.prog 61 #[.agg #[.int .i64 I0, .int .i64 C0, .int .i64 i1, .int .i64 X0, .int .i64 N1, .string Z0]] w fun e w' => e = .returned (.bool r) ∧ Below w.heap.size w w' := by
 have WB := Try.underlying28; have I := am (Below.refl w.heap.size w); have H := h; unfold XM.f at H; clear h; by_cases c2 : C0 = 16; rotate_left
 ·rw [if_neg c2] at H; have G9 : (C0 == 16) = false := beq_eq_false_iff_ne.mpr c2; have oE : (C0 != 16) = true := bne_iff_ne.mpr c2; obtain rfl := Option.some.inj H; go_enter Try.func61, Try.ntmps61; go_wp2_with (((with_reducible refine P2 (N := 1) rfl ?_); refine D3 ?hg (N := 1) ?hd (cs := #[.int .i64 I0, .int .i64 C0, .int .i64 i1, .int .i64 X0, .int .i64 N1, .string Z0]) (t := 28) ?hr ?_; (case hd => rfl); (case hg => rfl); (case hr => exact Y9); intro n0 hg w8 M0 G; have Y := am (M0); have W6 := am ((U2 : w.heap.size ≤ n0)); have H0 := am ((U2 : w.heap.size ≤ n0)); replace I := am (T0 (qB I.out) G); clear G M0 hg; obtain ⟨mJ, IJ, CJ, lW, Xi, Cg, GJ, zJ, DJ, hY, Pg, ZZ⟩ := S1 Y.out)); go_ret; exact ⟨L_, S0 H0 I.out⟩
 rw [if_pos c2] at H; have G9 : (C0 == 16) = true := beq_iff_eq.mpr c2; have oE : (C0 != 16) = false := bne_eq_false_iff_eq.mpr c2; clear c2; by_cases c3 : X0 = 47; rotate_left
 ·rw [if_neg c3] at H; have S8 : (X0 == 47) = false := beq_eq_false_iff_ne.mpr c3; have qD : (X0 != 47) = true := bne_iff_ne.mpr c3; obtain rfl := Option.some.inj H; go_enter Try.func61, Try.ntmps61; go_wp2_with (((with_reducible refine P2 (N := 1) rfl ?_); refine D3 ?hg (N := 1) ?hd (cs := #[.int .i64 I0, .int .i64 C0, .int .i64 i1, .int .i64 X0, .int .i64 N1, .string Z0]) (t := 28) ?hr ?_; (case hd => rfl); (case hg => rfl); (case hr => exact Y9); intro n0 hg w6 M0 G; have Y := am (M0); have W6 := am ((U2 : w.heap.size ≤ n0)); have H0 := am ((U2 : w.heap.size ≤ n0)); replace I := am (T0 (qB I.out) G); clear G M0 hg; obtain ⟨aK, VK, pK, oM, eX, dX, kL, QK, YK, bM, rX, tX⟩ := S1 Y.out)); go_ret; exact ⟨L_, S0 H0 I.out⟩
 rw [if_pos c3] at H; have S8 : (X0 == 47) = true := beq_iff_eq.mpr c3; have qD : (X0 != 47) = false := bne_eq_false_iff_eq.mpr c3; clear c3; obtain rfl := Option.some.inj H; go_enter Try.func61, Try.ntmps61; go_wp2_with (((with_reducible refine P2 (N := 1) rfl ?_); refine D3 ?hg (N := 1) ?hd (cs := #[.int .i64 I0, .int .i64 C0, .int .i64 i1, .int .i64 X0, .int .i64 N1, .string Z0]) (t := 28) ?hr ?_; (case hd => rfl); (case hg => rfl); (case hr => exact Y9); intro n0 hg w4 M0 G; have Y := am (M0); have W6 := am ((U2 : w.heap.size ≤ n0)); have H0 := am ((U2 : w.heap.size ≤ n0)); replace I := am (T0 (qB I.out) G); clear G M0 hg; obtain ⟨wL, EM, sM, WP, Zr, Fz, LL, BM, lM, FQ, Lv, Ns⟩ := S1 Y.out)); go_ret; exact ⟨L_, S0 H0 I.out⟩
def CA.l0 : Nat → List (N0) → Int → Int → Option (Int)
 | 0, _, _, _ => none
 | k + 1, x0, x7, x8 => if x8 < x7 then (if 0 ≤ x8 then (if x8 < (x0.length : Int) then ((XM.f ((U x0 x8).f0) ((U x0 x8).f1) ((U x0 x8).f2) ((U x0 x8).f3) ((U x0 x8).f4) ((U x0 x8).f5)).bind fun t102 => (if t102 = true then (some x8) else (CA.l0 k x0 x7 (wrap64 (x8 + 1))))) else (none)) else (none)) else (some (-1))
def CA.f (k : Nat) (l0 : List (N0)) : Option (Int) := CA.l0 k l0 (l0.length : Int) 0
theorem CA.mono_l : ∀ k, (∀ y0 y1 y2, F0 (CA.l0 k y0 y1 y2) (CA.l0 (k + 1) y0 y1 y2))
 | 0 => fun _ _ _ r h => by simp [CA.l0] at h
 | k + 1 => by
  have O2 := CA.mono_l k
  ·intro y0 y1 y2
   unfold CA.l0
   repeat' first
   | (with_reducible exact O2 _ _ _)
   | (with_reducible exact F0.refl _)
   | (with_reducible exact F0.none _)
   | (with_reducible refine F0.ite ?_ ?_)
   | (with_reducible refine F0.bind ?_ (fun _ => ?_))
   | exact O2 _ _ _
   | exact F0.none _
   | refine F0.ite ?_ ?_
   | refine F0.bind ?_ (fun _ => ?_)
theorem CA.mono : ∀ a0 k, F0 (CA.f k a0) (CA.f (k + 1) a0) := by
 intro a0 k
 have O2 := CA.mono_l k
 unfold CA.f
 repeat' first
  | (with_reducible exact O2 _ _ _)
  | (with_reducible exact F0.refl _)
  | (with_reducible exact F0.none _)
  | (with_reducible refine F0.ite ?_ ?_)
  | (with_reducible refine F0.bind ?_ (fun _ => ?_))
  | exact O2 _ _ _
  | exact F0.none _
  | refine F0.ite ?_ ?_
  | refine F0.bind ?_ (fun _ => ?_)
set_option maxHeartbeats 8000000 in
set_option maxRecDepth 100000 in
theorem CA.calls (k : Nat) (A0 : Option Addr) (c0 : Nat) (l0 : List (N0)) (r : Int) (w : World) (oB : Kd.C L3 w A0 l0.length l0) (i_ : l0.length ≤ c0) (h : CA.f k l0 = some r) :
 Calls Try.prog 60 #[.slice A0 l0.length c0, .func (.func 61) #[] #[]] w fun e w' => e = .returned (.int .i64 r) ∧ Below w.heap.size w w' := by
 have WB := Try.underlying28; have J_ := am oB; have FJ := am i_; clear oB i_; have I := am (Below.refl w.heap.size w); have H := h; unfold CA.f at H; clear h; have H' := am H; clear H; go_enter Try.func60, Try.ntmps60; go_wp2; go_loopg [8] k (fun kq v8 w' => ∃ (P1 : Int), v8 = .int .i64 P1 ∧ Aside0 (CA.l0 kq l0 (l0.length : Int) P1 = some r) ∧ Aside0 (kq ≤ k) ∧ Aside0 (Below w.heap.size w w'))
 case atStart => exact ⟨(0), o6, H', ⟨Nat.le_refl _⟩, ⟨qB I.out⟩⟩
 case round =>
  clear H'; obtain ⟨P1, rfl, HA, S4, I⟩ := hrel; cases gk with
  | zero => exact absurd HA.out (by simp [CA.l0])
  | succ k1 =>
   have H := HA.out; clear HA; simp only [CA.l0] at H; by_cases c2 : P1 < (l0.length : Int); rotate_left
   ·rw [if_neg c2] at H; have G9 : decide (P1 < (l0.length : Int)) = false := decide_eq_false c2; clear c2; obtain rfl := Option.some.inj H; go_wp2; go_ret; exact ⟨L_, qB I.out⟩
   rw [if_pos c2] at H; have G9 : decide (P1 < (l0.length : Int)) = true := decide_eq_true c2; clear c2; by_cases c3 : 0 ≤ P1; rotate_left
   ·rw [if_neg c3] at H; exact absurd H (by simp)
   rw [if_pos c3] at H; have S8 : decide (0 ≤ P1) = true := decide_eq_true c3; clear c3; by_cases c4 : P1 < (l0.length : Int); rotate_left
   ·rw [if_neg c4] at H; exact absurd H (by simp)
   rw [if_pos c4] at H; have T7 : decide (P1 < (l0.length : Int)) = true := decide_eq_true c4; clear c4; replace H := L2 H; obtain ⟨t102, v_, H⟩ := H; try dsimp -simprocs only at H
   have A5 := am v_; clear v_; by_cases c6 : t102 = true
   ·subst c6; have H1 : (some P1) = some r := by rw [if_pos rfl] at H; exact H
    clear H; have H := H1; clear H1; obtain rfl := Option.some.inj H; have N4 : 0 ≤ (P1 : Int) := of_decide_eq_true p7; have M4 : P1 < (l0.length : Int) := of_decide_eq_true p7; obtain ⟨P6, H9, F7, S7, Q7, P7, R7, U7⟩ := jA J_.out P1 N4 M4; cases H9; replace F7 := W0 I.out F7; replace S7 := W0 I.out S7; replace Q7 := W0 I.out Q7; replace P7 := W0 I.out P7; replace R7 := W0 I.out R7; replace U7 := W0 I.out U7; replace N4 := eq_true N4; replace M4 := eq_true M4; go_wp2_with ((refine BR (some 16) rfl rfl Try.func61 (by kernel_rfl) rfl #[.agg #[.int .i64 ((U l0 P1).f0), .int .i64 ((U l0 P1).f1), .int .i64 ((U l0 P1).f2), .int .i64 ((U l0 P1).f3), .int .i64 ((U l0 P1).f4), .string ((U l0 P1).f5)]] rfl L9 ?_; (with_reducible refine (XM.calls ((U l0 P1).f0) ((U l0 P1).f1) ((U l0 P1).f2) ((U l0 P1).f3) ((U l0 P1).f4) ((U l0 P1).f5) true _ A5.out).mono ?_); rintro e w7 ⟨rfl, G⟩; refine ⟨_, rfl, ?_⟩; replace I := am (T0 (qB I.out) G); (try clear G); (try clear C5); (try clear X); (try clear hi))); go_ret; exact ⟨L_, qB I.out⟩
   replace c6 := Bool.eq_false_iff.mpr c6; subst c6; have H1 : (CA.l0 k1 l0 (l0.length : Int) (wrap64 (P1 + 1))) = some r := by rw [if_neg (show ¬ (false = true) by decide)] at H; exact H
   clear H; have H := H1; clear H1; have H' := am H; clear H; have N4 : 0 ≤ (P1 : Int) := of_decide_eq_true p7; have M4 : P1 < (l0.length : Int) := of_decide_eq_true p7; obtain ⟨P6, H9, F7, S7, Q7, P7, R7, U7⟩ := jA J_.out P1 N4 M4; cases H9; replace F7 := W0 I.out F7; replace S7 := W0 I.out S7; replace Q7 := W0 I.out Q7; replace P7 := W0 I.out P7; replace R7 := W0 I.out R7; replace U7 := W0 I.out U7; replace N4 := eq_true N4; replace M4 := eq_true M4; go_wp2_with ((refine BR (some 16) rfl rfl Try.func61 (by kernel_rfl) rfl #[.agg #[.int .i64 ((U l0 P1).f0), .int .i64 ((U l0 P1).f1), .int .i64 ((U l0 P1).f2), .int .i64 ((U l0 P1).f3), .int .i64 ((U l0 P1).f4), .string ((U l0 P1).f5)]] rfl L9 ?_; (with_reducible refine (XM.calls ((U l0 P1).f0) ((U l0 P1).f1) ((U l0 P1).f2) ((U l0 P1).f3) ((U l0 P1).f4) ((U l0 P1).f5) false _ A5.out).mono ?_); rintro e w8 ⟨rfl, G⟩; refine ⟨_, rfl, ?_⟩; replace I := am (T0 (qB I.out) G); (try clear G); (try clear C5); (try clear X); (try clear hi))); go_roundg k1
   case measure => have := S4.out; omega
   case rel => exact ⟨(wrap64 (P1 + 1)), o6, H', ⟨C_⟩, ⟨qB I.out⟩⟩
def CD.f (k : Nat) (l0 : List (N0)) : Option (Bool) := if (l0.length : Int) > 0 then ((CA.f k l0).bind fun t101 => (some (t101 == (wrap64 ((l0.length : Int) - 1))))) else (some false)
theorem CD.mono : ∀ a0 k, F0 (CD.f k a0) (CD.f (k + 1) a0) := by
 intro a0 k
 unfold CD.f
 repeat' first
  | (with_reducible exact CA.mono _ _)
  | (with_reducible exact F0.refl _)
  | (with_reducible exact F0.none _)
  | (with_reducible refine F0.ite ?_ ?_)
  | (with_reducible refine F0.bind ?_ (fun _ => ?_))
  | exact CA.mono _ _
  | exact F0.none _
  | refine F0.ite ?_ ?_
  | refine F0.bind ?_ (fun _ => ?_)
set_option maxHeartbeats 8000000 in
set_option maxRecDepth 100000 in
theorem CD.calls (k : Nat) (A0 : Option Addr) (c0 : Nat) (l0 : List (N0)) (r : Bool) (w : World) (oB : Kd.C L3 w A0 l0.length l0) (i_ : l0.length ≤ c0) (h : CD.f k l0 = some r) :
 Calls Try.prog 40 #[.slice A0 l0.length c0] w fun e w' => e = .returned (.bool r) ∧ Below w.heap.size w w' := by
 have J_ := am oB; have FJ := am i_; clear oB i_; have I := am (Below.refl w.heap.size w); have H := h; unfold CD.f at H; clear h; by_cases c2 : (l0.length : Int) > 0; rotate_left
 ·rw [if_neg c2] at H; have G9 : decide (0 < (l0.length : Int)) = false := decide_eq_false c2; have oE : decide (0 < l0.length) = false := decide_eq_false (by omega); clear c2; obtain rfl := Option.some.inj H; go_enter Try.func40, Try.ntmps40; go_wp2; go_ret; exact ⟨L_, qB I.out⟩
 rw [if_pos c2] at H; have G9 : decide (0 < (l0.length : Int)) = true := decide_eq_true c2; have oE : decide (0 < l0.length) = true := decide_eq_true (by omega); clear c2; replace H := L2 H; obtain ⟨t101, Q_, H⟩ := H; try dsimp -simprocs only at H
 have A3 := am Q_; clear Q_; obtain rfl := Option.some.inj H; go_enter Try.func40, Try.ntmps40; go_wp2_with ((go_at_call 60; (with_reducible refine (CA.calls k _ _ l0 t101 _ ?side1 ?side2 A3.out).mono ?_); (case side1 => repeat (first | exact J_.out | (with_reducible refine Kd.LA ?_ _) | (with_reducible refine Kd.MA ?_ _) | (with_reducible refine Kd.KA ?_))); (case side2 => exact FJ.out); rintro e w4 ⟨rfl, G⟩; replace I := am (T0 (qB I.out) G); (try clear G); (try clear C5); (try clear X); (try clear hi))); go_ret; exact ⟨L_, qB I.out⟩
mutual
def H4.j0 : Nat → Bool → Int → Int → List (List (N0)) → Option (Int × Int)
 | 0, _, _, _, _ => none
 | k + 1, x45, H5, W3, T2 => if x45 = true then (some (0, 160)) else (H4.l0 k T2 (T2.length : Int) 0)
def H4.l0 : Nat → List (List (N0)) → Int → Int → Option (Int × Int)
 | 0, _, _, _ => none
 | k + 1, xM, fT, uG => if uG < fT then (if 0 ≤ uG then (if uG < (xM.length : Int) then ((lH.f k (L0 xM uG)).bind fun t103 => (if t103 = true then (some (uG, 151)) else ((CD.f k (L0 xM uG)).bind fun t104 => (if t104 = true then (H4.l0 k xM fT (wrap64 (uG + 1))) else (some (uG, 160)))))) else (none)) else (none)) else (some (0, 0))
end
def H4.f (k : Nat) (I0 : Int) (C0 : Int) (B0 : List (List (N0))) : Option (Int × Int) := if I0 < 0 then (H4.j0 k true I0 C0 B0) else (if I0 > 1 then (H4.j0 k true I0 C0 B0) else (if C0 < 1 then (H4.j0 k true I0 C0 B0) else (if C0 > 32767 then (H4.j0 k true I0 C0 B0) else (if (B0.length : Int) < 1 then (H4.j0 k true I0 C0 B0) else (if (B0.length : Int) > 16 then (H4.j0 k true I0 C0 B0) else (if (B0.length : Int) > 1 then (H4.j0 k (I0 == 0) I0 C0 B0) else (H4.j0 k false I0 C0 B0)))))))
theorem H4.mono_l : ∀ k, (∀ y0 y1 y2 y3, F0 (H4.j0 k y0 y1 y2 y3) (H4.j0 (k + 1) y0 y1 y2 y3)) ∧ (∀ y0 y1 y2, F0 (H4.l0 k y0 y1 y2) (H4.l0 (k + 1) y0 y1 y2))
 | 0 => ⟨fun _ _ _ _ r h => by simp [H4.j0] at h, fun _ _ _ r h => by simp [H4.l0] at h⟩
 | k + 1 => by
  obtain ⟨O2, Z5⟩ := H4.mono_l k
  refine ⟨?_, ?_⟩
  ·intro y0 y1 y2 y3
   unfold H4.j0
   repeat' with_reducible first
    | apply Z5
    | apply F0.refl
    | refine F0.ite ?_ ?_
  ·intro y0 y1 y2
   unfold H4.l0
   repeat' with_reducible first
    | apply Z5
    | apply lH.mono
    | apply CD.mono
    | apply F0.refl
    | refine F0.ite ?_ ?_
    | refine F0.bind ?_ (fun _ => ?_)
theorem H4.mono : ∀ a0 a1 a2 k, F0 (H4.f k a0 a1 a2) (H4.f (k + 1) a0 a1 a2) := by
 intro a0 a1 a2 k
 obtain ⟨O2, Z5⟩ := H4.mono_l k
 unfold H4.f
 repeat' with_reducible first
  | apply O2
  | refine F0.ite ?_ ?_
set_option maxHeartbeats 8000000 in
set_option maxRecDepth 100000 in
theorem H4.calls (k : Nat) (I0 : Int) (C0 : Int) (Q3 : Option Addr) (N3 : Nat) (B0 : List (List (N0))) (r1 : Int) (r2 : Int) (w : World) (oA : Kd.C (Kd.slice 28 L3) w Q3 B0.length B0) (qA : B0.length ≤ N3) (h : H4.f k I0 C0 B0 = some (r1, r2)) :
 Calls Try.prog 24 #[.agg #[.int .i64 I0, .int .i64 C0, .slice Q3 B0.length N3]] w fun e w' => e = .returned (.tuple #[.int .i64 r1, .int .i64 r2]) ∧ Below w.heap.size w w' := by
 have OH := Try.underlying24; have X6 := am oA; have bC := am qA; clear oA qA; have I := am (Below.refl w.heap.size w); have H := h; unfold H4.f at H; clear h; have PC := am H; clear H; go_enter Try.func24, Try.ntmps24; go_upto_region 2 with (((with_reducible refine P2 (N := 1) rfl ?_); refine D3 ?hg (N := 1) ?hd (cs := #[.int .i64 I0, .int .i64 C0, .slice Q3 B0.length N3]) (t := 24) ?hr ?_; (case hd => rfl); (case hg => rfl); (case hr => exact Z2); intro n0 hg w3 M0 G; have Y := am (M0); have W6 := am ((U2 : w.heap.size ≤ n0)); have H0 := am ((U2 : w.heap.size ≤ n0)); replace I := am (T0 (qB I.out) G); clear G M0 hg; obtain ⟨aT, yT, vS, BU, GS, RT⟩ := V2 Y.out))
 (try simp only [Act.put, List.setIfInBounds_toArray, List.set_cons_zero, List.set_cons_succ]); go_cut [45] (fun v45 wc => ∃ (kq : Nat) (tW : Bool), v45 = .bool tW ∧ Aside0 (H4.j0 kq tW I0 C0 B0 = some (r1, r2)) ∧ Aside0 (kq ≤ k) ∧ Aside0 (wc.heap[n0]? = some (.cells #[.int .i64 I0, .int .i64 C0, (.slice Q3 B0.length N3)] 24 (0, 0))) ∧ Aside0 (Below w.heap.size w wc))
 case first =>
  have H := PC.out; clear PC; by_cases c5 : I0 < 0
  ·rw [if_pos c5] at H; have qC : decide (I0 < 0) = true := decide_eq_true c5; clear c5; have H' := am H; clear H; obtain ⟨ch8, ba4, av5, cg6, cd3, ay5⟩ := V2 Y.out; go_wp2; go_meet
   case rel => exact ⟨_, (true), (by rfl), H', ⟨by omega⟩, ⟨bq Y.out⟩, ⟨S0 H0 I.out⟩⟩
  rw [if_neg c5] at H; have qC : decide (I0 < 0) = false := decide_eq_false c5; clear c5; by_cases c7 : I0 > 1
  ·rw [if_pos c7] at H; have lC : decide (1 < I0) = true := decide_eq_true c7; clear c7; have H' := am H; clear H; obtain ⟨bb3, bs6, bw4, bt5, bv2, bj9⟩ := V2 Y.out; go_wp2; go_meet
   case rel => exact ⟨_, (true), (by rfl), H', ⟨by omega⟩, ⟨bq Y.out⟩, ⟨S0 H0 I.out⟩⟩
  rw [if_neg c7] at H; have lC : decide (1 < I0) = false := decide_eq_false c7; clear c7; by_cases c9 : C0 < 1
  ·rw [if_pos c9] at H; have xH : decide (C0 < 1) = true := decide_eq_true c9; clear c9; have H' := am H; clear H; obtain ⟨MU, UR, iT, nT, QS, PU⟩ := V2 Y.out; go_wp2; go_meet
   case rel => exact ⟨_, (true), (by rfl), H', ⟨by omega⟩, ⟨bq Y.out⟩, ⟨S0 H0 I.out⟩⟩
  rw [if_neg c9] at H; have xH : decide (C0 < 1) = false := decide_eq_false c9; clear c9; by_cases Y7 : C0 > 32767
  ·rw [if_pos Y7] at H; have jL : decide (32767 < C0) = true := decide_eq_true Y7; clear Y7; have H' := am H; clear H; obtain ⟨FM, xL, EL, CL, qM, FL⟩ := V2 Y.out; go_wp2; go_meet
   case rel => exact ⟨_, (true), (by rfl), H', ⟨by omega⟩, ⟨bq Y.out⟩, ⟨S0 H0 I.out⟩⟩
  rw [if_neg Y7] at H; have jL : decide (32767 < C0) = false := decide_eq_false Y7; clear Y7; by_cases P8 : (B0.length : Int) < 1
  ·rw [if_pos P8] at H; have QQ : decide ((B0.length : Int) < 1) = true := decide_eq_true P8; have bq9 : decide (B0.length < 1) = true := decide_eq_true (by omega); clear P8; have H' := am H; clear H; obtain ⟨IL, rM, aM, zM, IM, OL⟩ := V2 Y.out; go_wp2; go_meet
   case rel => exact ⟨_, (true), (by rfl), H', ⟨by omega⟩, ⟨bq Y.out⟩, ⟨S0 H0 I.out⟩⟩
  rw [if_neg P8] at H; have QQ : decide ((B0.length : Int) < 1) = false := decide_eq_false P8; have bq9 : decide (B0.length < 1) = false := decide_eq_false (by omega); clear P8; by_cases i5 : (B0.length : Int) > 16
  ·rw [if_pos i5] at H; have oJ : decide (16 < (B0.length : Int)) = true := decide_eq_true i5; have ZN : decide (16 < B0.length) = true := decide_eq_true (by omega); clear i5; have H' := am H; clear H; obtain ⟨dL, oK, IK, AK, mL, dK⟩ := V2 Y.out; go_wp2; go_meet
   case rel => exact ⟨_, (true), (by rfl), H', ⟨by omega⟩, ⟨bq Y.out⟩, ⟨S0 H0 I.out⟩⟩
  rw [if_neg i5] at H; have oJ : decide (16 < (B0.length : Int)) = false := decide_eq_false i5; have ZN : decide (16 < B0.length) = false := decide_eq_false (by omega); clear i5; by_cases l7 : (B0.length : Int) > 1
  ·rw [if_pos l7] at H; have wH : decide (1 < (B0.length : Int)) = true := decide_eq_true l7; have FS : decide (1 < B0.length) = true := decide_eq_true (by omega); clear l7; have H' := am H; clear H; obtain ⟨wN, JO, qO, NN, lO, tN⟩ := V2 Y.out; go_wp2; go_meet
   case rel => exact ⟨_, ((I0 == 0)), (by rfl), H', ⟨by omega⟩, ⟨bq Y.out⟩, ⟨S0 H0 I.out⟩⟩
  rw [if_neg l7] at H; have wH : decide (1 < (B0.length : Int)) = false := decide_eq_false l7; have FS : decide (1 < B0.length) = false := decide_eq_false (by omega); clear l7; have H' := am H; clear H; obtain ⟨AP, dQ, KQ, VP, AQ, aQ⟩ := V2 Y.out; go_wp2; go_meet
  case rel => exact ⟨_, (false), (by rfl), H', ⟨by omega⟩, ⟨bq Y.out⟩, ⟨S0 H0 I.out⟩⟩
 case rest =>
  clear PC; obtain ⟨kq, tW, rfl, HA, UB, Y, I⟩ := hcut; cases kq with
  | zero => exact absurd HA.out (by simp [H4.j0])
  | succ xC =>
   have H := HA.out; clear HA; simp only [H4.j0] at H; by_cases K5 : tW = true
   ·subst K5; have H1 : (some (0, 160)) = some (r1, r2) := by rw [if_pos rfl] at H; exact H
    clear H; have H := H1; clear H1; simp only [Option.some.injEq, Prod.mk.injEq] at H; obtain ⟨rfl, rfl⟩ := H; go_wp2; go_ret2; exact ⟨by rfl, S0 H0 I.out⟩
   replace K5 := Bool.eq_false_iff.mpr K5; subst K5; have H1 : (H4.l0 xC B0 (B0.length : Int) 0) = some (r1, r2) := by rw [if_neg (show ¬ (false = true) by decide)] at H; exact H
   clear H; have H := H1; clear H1; have H' := am H; clear H; obtain ⟨IS, KU, ZS, PT, fS, LS⟩ := V2 Y.out; go_wp2; go_loopg [49] xC (fun kq Bk w' => ∃ (D6 : Int), Bk = .int .i64 D6 ∧ Aside0 (H4.l0 kq B0 (B0.length : Int) D6 = some (r1, r2)) ∧ Aside0 (kq ≤ xC) ∧ Aside0 (w'.heap[n0]? = some (.cells #[.int .i64 I0, .int .i64 C0, (.slice Q3 B0.length N3)] 24 (0, 0))) ∧ Aside0 (Below w.heap.size w w'))
   case atStart => exact ⟨(0), (by rfl), H', ⟨Nat.le_refl _⟩, ⟨bq Y.out⟩, ⟨S0 H0 I.out⟩⟩
   case round =>
    clear H'; obtain ⟨D6, rfl, HA, TA, Y, I⟩ := hrel; cases gk with
    | zero => exact absurd HA.out (by simp [H4.l0])
    | succ k2 =>
     have H := HA.out; clear HA; simp only [H4.l0] at H; by_cases P5 : D6 < (B0.length : Int); rotate_left
     ·rw [if_neg P5] at H; have RG : decide (D6 < (B0.length : Int)) = false := decide_eq_false P5; clear P5; simp only [Option.some.injEq, Prod.mk.injEq] at H; obtain ⟨rfl, rfl⟩ := H; go_wp2; go_ret2; exact ⟨by rfl, S0 H0 I.out⟩
     rw [if_pos P5] at H; have RG : decide (D6 < (B0.length : Int)) = true := decide_eq_true P5; clear P5; by_cases L5 : 0 ≤ D6; rotate_left
     ·rw [if_neg L5] at H; exact absurd H (by simp)
     rw [if_pos L5] at H; have EF : decide (0 ≤ D6) = true := decide_eq_true L5; clear L5; by_cases b6 : D6 < (B0.length : Int); rotate_left
     ·rw [if_neg b6] at H; exact absurd H (by simp)
     rw [if_pos b6] at H; have SE : decide (D6 < (B0.length : Int)) = true := decide_eq_true b6; clear b6; replace H := L2 H; obtain ⟨t103, zU, H⟩ := H; have tU := am zU; clear zU; by_cases i6 : t103 = true
     ·subst i6; have H1 : (some (D6, 151)) = some (r1, r2) := by rw [if_pos rfl] at H; exact H
      clear H; have H := H1; clear H1; simp only [Option.some.injEq, Prod.mk.injEq] at H; obtain ⟨rfl, rfl⟩ := H; have B8 : 0 ≤ (D6 : Int) := of_decide_eq_true R1; have H8 : D6 < (B0.length : Int) := of_decide_eq_true R1; obtain ⟨tG, iE, tE, SC, DA, jB, kB⟩ := R9 X6.out D6 B8 H8; cases SC; replace DA := W0 I.out DA; have kI := am kB; have zF := am jB; clear kB jB; replace B8 := eq_true B8; replace H8 := eq_true H8; go_wp2_with (((with_reducible refine H2 (f := 39) rfl ?_); refine G2 (some 57) rfl rfl Try.func39 (by kernel_rfl) rfl #[.slice iE (L0 B0 D6).length tE, .func (.func 38) #[] #[]] rfl F2 ?_; (with_reducible refine (lH.calls k2 _ _ (L0 B0 D6) true _ ?side1 ?side2 tU.out).mono ?_); (case side1 => exact oV); (case side2 => exact zF.out); rintro e w27 ⟨rfl, G⟩; refine ⟨_, rfl, ?_⟩; replace Y := am (O0 (bq Y.out) G); replace I := am (T0 (S0 H0 I.out) G); )); go_ret2; exact ⟨by rfl, S0 H0 I.out⟩
     replace i6 := Bool.eq_false_iff.mpr i6; subst i6; have H1 : ((CD.f k2 (L0 B0 D6)).bind fun t104 => (if t104 = true then (H4.l0 k2 B0 (B0.length : Int) (wrap64 (D6 + 1))) else (some (D6, 160)))) = some (r1, r2) := by rw [if_neg (show ¬ (false = true) by decide)] at H; exact H
     clear H; have H := H1; clear H1; replace H := L2 H; obtain ⟨t104, Pp, H⟩ := H; have Cp := am Pp; clear Pp; by_cases RA : t104 = true
     ·subst RA; have H1 : (H4.l0 k2 B0 (B0.length : Int) (wrap64 (D6 + 1))) = some (r1, r2) := by rw [if_pos rfl] at H; exact H
      clear H; have H := H1; clear H1; have H' := am H; clear H; have B8 : 0 ≤ (D6 : Int) := of_decide_eq_true R1; have H8 : D6 < (B0.length : Int) := of_decide_eq_true R1; obtain ⟨tG, iE, tE, SC, DA, jB, kB⟩ := R9 X6.out D6 B8 H8; cases SC; replace DA := W0 I.out DA; have kI := am kB; have zF := am jB; clear kB jB; replace B8 := eq_true B8; replace H8 := eq_true H8; go_wp2_with (first | ((with_reducible refine H2 (f := 39) rfl ?_); refine G2 (some 57) rfl rfl Try.func39 (by kernel_rfl) rfl #[.slice iE (L0 B0 D6).length tE, .func (.func 38) #[] #[]] rfl F2 ?_; (with_reducible refine (lH.calls k2 _ _ (L0 B0 D6) false _ ?side1 ?side2 tU.out).mono ?_); (case side1 => exact oV); (case side2 => exact zF.out); rintro e Nh ⟨rfl, G⟩; refine ⟨_, rfl, ?_⟩; replace Y := am (O0 (bq Y.out) G); replace I := am (T0 (S0 H0 I.out) G); ) | ((with_reducible refine H2 (f := 40) rfl ?_); refine G2 (some 61) rfl rfl Try.func40 (by kernel_rfl) rfl #[.slice iE (L0 B0 D6).length tE] rfl F2 ?_; (with_reducible refine (CD.calls k2 _ _ (L0 B0 D6) true _ ?side1 ?side2 Cp.out).mono ?_); (case side1 => exact oV); (case side2 => exact zF.out); rintro e EU ⟨rfl, G⟩; refine ⟨_, rfl, ?_⟩; replace Y := am (O0 (bq Y.out) G); replace I := am (T0 (S0 H0 I.out) G); )); go_roundg k2
      case measure => have := UB.out; have := TA.out; omega
      case rel => exact ⟨(wrap64 (D6 + 1)), (by rfl), H', ⟨by have := UB.out; have := TA.out; omega⟩, ⟨bq Y.out⟩, ⟨S0 H0 I.out⟩⟩
     replace RA := Bool.eq_false_iff.mpr RA; subst RA; have H1 : (some (D6, 160)) = some (r1, r2) := by rw [if_neg (show ¬ (false = true) by decide)] at H; exact H
     clear H; have H := H1; clear H1; simp only [Option.some.injEq, Prod.mk.injEq] at H; obtain ⟨rfl, rfl⟩ := H; have B8 : 0 ≤ (D6 : Int) := of_decide_eq_true R1; have H8 : D6 < (B0.length : Int) := of_decide_eq_true R1; obtain ⟨tG, iE, tE, SC, DA, jB, kB⟩ := R9 X6.out D6 B8 H8; cases SC; replace DA := W0 I.out DA; have kI := am kB; have zF := am jB; clear kB jB; replace B8 := eq_true B8; replace H8 := eq_true H8; go_wp2_with (first | ((with_reducible refine H2 (f := 39) rfl ?_); refine G2 (some 57) rfl rfl Try.func39 (by kernel_rfl) rfl #[.slice iE (L0 B0 D6).length tE, .func (.func 38) #[] #[]] rfl F2 ?_; (with_reducible refine (lH.calls k2 _ _ (L0 B0 D6) false _ ?side1 ?side2 tU.out).mono ?_); (case side1 => exact oV); (case side2 => exact zF.out); rintro e yM ⟨rfl, G⟩; refine ⟨_, rfl, ?_⟩; replace Y := am (O0 (bq Y.out) G); replace I := am (T0 (S0 H0 I.out) G); ) | ((with_reducible refine H2 (f := 40) rfl ?_); refine G2 (some 61) rfl rfl Try.func40 (by kernel_rfl) rfl #[.slice iE (L0 B0 D6).length tE] rfl F2 ?_; (with_reducible refine (CD.calls k2 _ _ (L0 B0 D6) false _ ?side1 ?side2 Cp.out).mono ?_); (case side1 => exact oV); (case side2 => exact zF.out); rintro e rH ⟨rfl, G⟩; refine ⟨_, rfl, ?_⟩; replace Y := am (O0 (bq Y.out) G); replace I := am (T0 (S0 H0 I.out) G); )); go_ret2; exact ⟨by rfl, S0 H0 I.out⟩
end Go.Proofs.Ytdmnknhlibaaoaa.M
namespace Go.Proofs.Ytdmnknhlibaaoaa.M
open Go.RowKit Go.Proofs.YtdmnknhlibaaoaaW.PrintWords Go.Proofs.YtdmnknhlibaaoaaW.PrintLast Go.Proofs.YtdmnknhlibaaoaaW.PrintMore
set_option linter.unusedVariables false
set_option linter.unusedSimpArgs false
def YD (w : World) (base : Nat) (v : Value) (xs : List Int) : Prop :=
 ∃ g fz, v = .slice (some ⟨g, 0, none⟩) xs.length xs.length ∧ base ≤ g ∧ w.heap[g]? = some (.cells (BC .u8 xs).toArray 5 fz)
theorem YD.lt {w : World} {base : Nat} {v : Value} {xs : List Int} (h : YD w base v xs) : ∃ g, v = .slice (some ⟨g, 0, none⟩) xs.length xs.length ∧ g < w.heap.size := by
 obtain ⟨g, fz, rfl, _, hg⟩ := h
 exact ⟨g, rfl, K8 hg⟩
theorem YD.below {w w1 : World} {base : Nat} {v : Value} {xs : List Int} (h : YD w base v xs) (G : Below w.heap.size w w1) : YD w1 base v xs := by
 obtain ⟨g, fz, rfl, h0, hg⟩ := h
 exact ⟨g, fz, rfl, h0, (G.block g (K8 hg)).trans hg⟩
theorem YD.alloc {w : World} {base : Nat} {v : Value} {xs : List Int} (h : YD w base v xs) (o : Obj) : YD (w.alloc o) base v xs := by
 obtain ⟨g, fz, rfl, h0, hg⟩ := h
 exact ⟨g, fz, rfl, h0, I1 hg o⟩
theorem YD.drew {w : World} {base : Nat} {v : Value} {xs : List Int} (h : YD w base v xs) : YD w.drew base v xs := by
 obtain ⟨g, fz, rfl, h0, hg⟩ := h
 exact ⟨g, fz, rfl, h0, M1 hg⟩
theorem YD.start (w6 : World) {base : Nat} {y : List Int} (hy : y = [77, 84, 104, 100, 0, 0, 0, 6]) (h : base ≤ w6.heap.size) : YD (w6.alloc (.cells #[.int .u8 77, .int .u8 84, .int .u8 104, .int .u8 100, .int .u8 0, .int .u8 0, .int .u8 0, .int .u8 6] 5 (8, 9))) base (.slice (some ⟨w6.heap.size, 0, none⟩) 8 8) y := by
 subst hy
 exact ⟨w6.heap.size, (8, 9), rfl, h, by simpa [BC] using heap_alloc_new w6 (.cells #[.int .u8 77, .int .u8 84, .int .u8 104, .int .u8 100, .int .u8 0, .int .u8 0, .int .u8 0, .int .u8 6] 5 (8, 9))⟩
theorem cu9 {P : Program} {ops : Array Oper} {rest : List Oper} {o : Oper} {a : Act} {Q : Exit → Act → World → Prop} {w0 W : World} (base : Nat) (zC : o.guard = none) (s x : Operand) (t : TypeId)
 (ho : o.op = .call { callee := .builtin .append, args := #[s, x], argTypes := #[t, t] })
 (ht : P.underlying t = some (.slice 5)) (LC : (P.info? 5).map (fun i => (i.zero, i.size, i.bytes)) = some (some (.int .u8 0), 1, 1))
 (v : Value) (xs ys : List Int) (A : Option Addr) (m c : Nat) (b0 : Nat) (ok : Nat → Prop) (hs : a.eval s = v) (hx : a.eval x = .slice A m c) (hm : 0 < m)
 (HO : YD W base v xs) (HY : Kd.R (Kd.int .u8) 5 W b0 ok (.slice A m c) ys)
 (I : Below base w0 W) (G7 : base ≤ W.heap.size) (hl : xs.length + m ≤ 140737488355328)
 (h : ∀ v1 w1, Kd.R (Kd.int .u8) 5 w1 base (fun _ => True) v1 (xs ++ ys) → Below base w0 w1 → W.grownBy w1 none → (∃ b, v1.ownBlock = some b ∧ W.heap.size ≤ b) → wpList P ops Q rest (a.put o.dst v1) w1) :
 wpList P ops Q (o :: rest) a W := by
 obtain ⟨i0, hi, nE⟩ := Option.map_eq_some_iff.1 LC
 simp only [Prod.mk.injEq] at nE
 obtain ⟨sF, eG, ND⟩ := nE
 have hym : m = ys.length := (Kd.n_ HY).1
 have hy := Kd.yG HY
 obtain ⟨g, fz, rfl, hg0, hg⟩ := HO
 rcases hy.2 with ⟨he, _⟩ | ⟨gy, fj8, df2, hey, Qy, hhy, hny, hcy, hsy, MR⟩
 ·injection he with _ he _
  omega
 ·injection hey with h1 h2 h3
  subst h1
  refine wpList_append_grows W zC s x t ho 5 i0 (.int .u8 0) 1 1 ht hi sF eG ND rfl (by decide) (some ⟨g, 0, none⟩) xs.length xs.length (BC .u8 xs) hs (by simp) (by rw [Vm]; omega) ?_
   ⟨gy, 0, none⟩ m c (BC .u8 ys) hx (by rw [Vm]; omega) ?_ ?_ (by omega) (by simp only [maxLen]; omega) (by omega) ?_
  ·intro b G j u hj
   injection G with G
   subst G
   rw [Addr.add_lit, Nat.zero_add]
   simp only [World.cell?, hg]
   simpa using hj
  ·intro j u hj
   rw [Addr.add_lit, Nat.zero_add]
   simp only [World.cell?, hhy]
   have ZL : (YH (Value.int .u8) ys)[j]? = some u := hj
   rw [← MR] at ZL
   rw [List.getElem?_take] at ZL
   split at ZL
   ·simpa using ZL
   ·cases ZL
  ·intro u hu
   simp only [BC, List.mem_map] at hu
   obtain ⟨q, _, rfl⟩ := hu
   rfl
  ·intro v1 w1 G_ hgr
   have hlen : (xs ++ ys).length = xs.length + m := by rw [List.length_append]; omega
   rw [← BV, ← hlen] at G_
   have hR : Kd.R (Kd.int .u8) 5 w1 W.heap.size (fun _ => True) v1 (xs ++ ys) := Kd.bR (h1 := fun _ => rfl) (ok := fun _ => True) G_ (fun _ _ => trivial)
   refine h v1 w1 (Kd.j9 hR G7) (I.grown hgr G7 (by simp)) hgr ?_
   rcases G_.2 with ⟨rfl, h0⟩ | ⟨g1, fg1, ev4, rfl, rK, _⟩
   ·omega
   ·exact ⟨g1, rfl, rK⟩
end Go.Proofs.Ytdmnknhlibaaoaa.M
namespace Go.Proofs.Ytdmnknhlibaaoaa.M
open Go.RowKit Go.Proofs.YtdmnknhlibaaoaaW.PrintWords Go.Proofs.YtdmnknhlibaaoaaW.PrintLast Go.Proofs.YtdmnknhlibaaoaaW.PrintMore
attribute [local go_sem] cH bH eH jH fH nH qH oH
set_option linter.unusedVariables false
set_option linter.unusedSimpArgs false
mutual
def Q5.l0 : Nat → List Int → List Int → Int → Int → Int → Int → List (List (N0)) → Option (ByteArray × Int)
 | 0, _, _, _, _, _, _, _ => none
 | k + 1, x6, cW, dY, vQ, H5, W3, T2 => if vQ < dY then (if 0 ≤ vQ then (if vQ < (cW.length : Int) then ((some (([((rd cW vQ) / 256) % 256, (rd cW vQ) % 256] : List Int) : List Int)).bind fun ID => (if x6.length + ID.length < 140737488355328 then (Q5.l0 k (x6 ++ ID) cW dY (wrap64 (vQ + 1)) H5 W3 T2) else (none))) else (none)) else (none)) else (Q5.l1 k x6 T2 (T2.length : Int) 0)
def Q5.l1 : Nat → List Int → List (List (N0)) → Int → Int → Option (ByteArray × Int)
 | 0, _, _, _, _ => none
 | k + 1, x6, xM, fT, uG => if uG < fT then (if 0 ≤ uG then (if uG < (xM.length : Int) then ((z5.f k (L0 xM uG)).bind fun uD => (if x6.length + 4 < 140737488355328 then ((some (x6 ++ bytesOf (⟨#[77, 84, 114, 107]⟩ : ByteArray) : List Int)).bind fun DI => ((some (([((uD.1.size : Int) / 16777216) % 256, ((uD.1.size : Int) / 65536) % 256, ((uD.1.size : Int) / 256) % 256, ((uD.1.size : Int)) % 256] : List Int) : List Int)).bind fun W5 => (if DI.length + W5.length < 140737488355328 then ((some (DI ++ W5 : List Int)).bind fun oG => (if oG.length + uD.1.size < 140737488355328 then (Q5.l1 k (oG ++ bytesOf uD.1) xM fT (wrap64 (uG + 1))) else (none))) else (none)))) else (none))) else (none)) else (none)) else (if (x6.length : Int) > 100000 then (some ((⟨#[]⟩ : ByteArray), 160)) else (some (strOfNums x6, 0)))
end
def Q5.f (k : Nat) (I0 : Int) (C0 : Int) (B0 : List (List (N0))) : Option (ByteArray × Int) := (H4.f k I0 C0 B0).bind fun z6 => (if z6.2 = 0 then ((some (([I0, (B0.length : Int), C0] : List Int) : List Int)).bind fun R3 => (Q5.l0 k (([77, 84, 104, 100, 0, 0, 0, 6] : List Int)) R3 (R3.length : Int) 0 I0 C0 B0)) else (some ((⟨#[]⟩ : ByteArray), z6.2)))
theorem Q5.mono_l : ∀ k, (∀ y0 y1 y2 y3 y4 y5 y6, F0 (Q5.l0 k y0 y1 y2 y3 y4 y5 y6) (Q5.l0 (k + 1) y0 y1 y2 y3 y4 y5 y6)) ∧ (∀ y0 y1 y2 y3, F0 (Q5.l1 k y0 y1 y2 y3) (Q5.l1 (k + 1) y0 y1 y2 y3))
 | 0 => ⟨fun _ _ _ _ _ _ _ r h => by simp [Q5.l0] at h, fun _ _ _ _ r h => by simp [Q5.l1] at h⟩
 | k + 1 => by
  obtain ⟨O2, Z5⟩ := Q5.mono_l k
  refine ⟨?_, ?_⟩
  ·intro y0 y1 y2 y3 y4 y5 y6
   unfold Q5.l0
   repeat' with_reducible first
    | apply O2
    | apply Z5
    | apply F0.refl
    | refine F0.ite ?_ ?_
    | refine F0.bind ?_ (fun _ => ?_)
  ·intro y0 y1 y2 y3
   unfold Q5.l1
   repeat' with_reducible first
    | apply Z5
    | apply z5.mono
    | apply F0.refl
    | refine F0.ite ?_ ?_
    | refine F0.bind ?_ (fun _ => ?_)
theorem Q5.mono : ∀ a0 a1 a2 k, F0 (Q5.f k a0 a1 a2) (Q5.f (k + 1) a0 a1 a2) := by
 intro a0 a1 a2 k
 obtain ⟨O2, Z5⟩ := Q5.mono_l k
 unfold Q5.f
 repeat' with_reducible first
  | apply O2
  | apply H4.mono
  | apply F0.refl
  | refine F0.ite ?_ ?_
  | refine F0.bind ?_ (fun _ => ?_)
set_option maxHeartbeats 8000000 in
set_option maxRecDepth 100000 in
theorem Q5.calls (k : Nat) (I0 : Int) (C0 : Int) (Q3 : Option Addr) (N3 : Nat) (B0 : List (List (N0))) (r1 : ByteArray) (r2 : Int) (w : World) (oA : Kd.C (Kd.slice 28 L3) w Q3 B0.length B0) (qA : B0.length ≤ N3) (h : Q5.f k I0 C0 B0 = some (r1, r2)) :
 Calls Try.prog 15 #[.agg #[.int .i64 I0, .int .i64 C0, .slice Q3 B0.length N3]] w fun e w' => e = .returned (.tuple #[.string r1, .int .i64 r2]) ∧ Below w.heap.size w w' := by
 have OH := Try.underlying24; have X6 := am oA; have bC := am qA; clear oA qA; have I := am (Below.refl w.heap.size w); have H := h; unfold Q5.f at H; clear h; replace H := L2 H; obtain ⟨⟨t102, t103⟩, f_, H⟩ := H; have A2 := am f_; clear f_; have Cc : ∀ (W : World), (convert 39 39 (.slice (some ⟨W.heap.size, 0, none⟩) 8 8)).run Try.prog (W.alloc (.cells #[.int .u8 77, .int .u8 84, .int .u8 104, .int .u8 100, .int .u8 0, .int .u8 0, .int .u8 0, .int .u8 6] 5)) = .ok (.slice (some ⟨W.heap.size, 0, none⟩) 8 8) (W.alloc (.cells #[.int .u8 77, .int .u8 84, .int .u8 104, .int .u8 100, .int .u8 0, .int .u8 0, .int .u8 0, .int .u8 6] 5 (8, 9))) := fun W => Lib.run_convert_bytes_const W 39 5 #[.int .u8 77, .int .u8 84, .int .u8 104, .int .u8 100, .int .u8 0, .int .u8 0, .int .u8 0, .int .u8 6] 8 8 Try.underlying39 Try.underlying5
 by_cases c3 : t103 = 0; rotate_left
 ·rw [if_neg c3] at H; have S8 : (t103 == 0) = false := beq_eq_false_iff_ne.mpr c3; have qD : (t103 != 0) = true := bne_iff_ne.mpr c3; simp only [Option.some.injEq, Prod.mk.injEq] at H; obtain ⟨rfl, rfl⟩ := H; go_enter Try.func15, Try.ntmps15; go_wp2_with (first | ((with_reducible refine P2 (N := 1) rfl ?_); refine D3 ?hg (N := 1) ?hd (cs := #[.int .i64 I0, .int .i64 C0, .slice Q3 B0.length N3]) (t := 24) ?hr ?_; (case hd => rfl); (case hg => rfl); (case hr => exact Z2); intro n0 hg w40 M0 G; have Y := am (M0); have W6 := am ((U2 : w.heap.size ≤ n0)); have H0 := am ((U2 : w.heap.size ≤ n0)); replace I := am (T0 (qB I.out) G); clear G M0 hg; obtain ⟨yP, FP, VQ, SP, bQ, IQ⟩ := V2 Y.out) | ((with_reducible refine H2 (f := 24) rfl ?_); refine G2 (some 16) rfl rfl Try.func24 (by kernel_rfl) rfl #[.agg #[.int .i64 I0, .int .i64 C0, .slice Q3 B0.length N3]] rfl F2 ?_; (with_reducible refine (H4.calls k I0 C0 _ _ B0 t102 t103 _ ?side1 ?side2 A2.out).mono ?_); (case side1 => repeat (exact (Kd.cB X6.out I.out))); (case side2 => exact bC.out); rintro e w42 ⟨rfl, G⟩; refine ⟨_, rfl, ?_⟩; replace Y := am (O0 (bq Y.out) G); replace I := am (T0 (S0 H0 I.out) G); )); go_ret2; exact ⟨by rfl, S0 H0 I.out⟩
 rw [if_pos c3] at H; have S8 : (t103 == 0) = true := beq_iff_eq.mpr c3; have qD : (t103 != 0) = false := bne_eq_false_iff_eq.mpr c3; clear c3; obtain ⟨NH, GO⟩ : ∃ y_ : List Int, y_ = (([77, 84, 104, 100, 0, 0, 0, 6] : List Int)) := ⟨_, rfl⟩
 replace H : ((some (([I0, (B0.length : Int), C0] : List Int) : List Int)).bind fun R3 => (Q5.l0 k NH R3 (R3.length : Int) 0 I0 C0 B0)) = some (r1, r2) := by (rw [GO]; with_reducible exact H)
 have Sa := am GO; clear GO; obtain ⟨R3, FF⟩ : ∃ y_ : List Int, y_ = (([I0, (B0.length : Int), C0] : List Int)) := ⟨_, rfl⟩
 replace H : (Q5.l0 k NH R3 (R3.length : Int) 0 I0 C0 B0) = some (r1, r2) := by (have S6 := (Option.bind_some _ _).symm.trans H; rw [FF]; with_reducible exact S6)
 have MG := am FF; clear FF; have H' := am H; clear H; go_enter Try.func15, Try.ntmps15; go_wp2_with (first | ((with_reducible refine P2 (N := 1) rfl ?_); refine D3 ?hg (N := 1) ?hd (cs := #[.int .i64 I0, .int .i64 C0, .slice Q3 B0.length N3]) (t := 24) ?hr ?_; (case hd => rfl); (case hg => rfl); (case hr => exact Z2); intro n0 hg w4 M0 G; have Y := am (M0); have W6 := am ((U2 : w.heap.size ≤ n0)); have H0 := am ((U2 : w.heap.size ≤ n0)); replace I := am (T0 (qB I.out) G); clear G M0 hg; obtain ⟨wL, EM, sM, LL, BM, lM⟩ := V2 Y.out) | ((with_reducible refine H2 (f := 24) rfl ?_); refine G2 (some 16) rfl rfl Try.func24 (by kernel_rfl) rfl #[.agg #[.int .i64 I0, .int .i64 C0, .slice Q3 B0.length N3]] rfl F2 ?_; (with_reducible refine (H4.calls k I0 C0 _ _ B0 t102 t103 _ ?side1 ?side2 A2.out).mono ?_); (case side1 => repeat (exact (Kd.cB X6.out I.out))); (case side2 => exact bC.out); rintro e w6 ⟨rfl, G⟩; refine ⟨_, rfl, ?_⟩; replace Y := am (O0 (bq Y.out) G); replace I := am (T0 (S0 H0 I.out) G); have mJ : (w6.alloc (.cells #[.int .u8 77, .int .u8 84, .int .u8 104, .int .u8 100, .int .u8 0, .int .u8 0, .int .u8 0, .int .u8 6] 5 (8, 9))).cell? ⟨n0, 0, none⟩ = some (.int .i64 I0) := (G0 (I1 Y.out _) 0).trans rfl; have GJ := Y0 (I1 Y.out (.cells #[.int .u8 77, .int .u8 84, .int .u8 104, .int .u8 100, .int .u8 0, .int .u8 0, .int .u8 0, .int .u8 6] 5 (8, 9))) 0; have IJ : (w6.alloc (.cells #[.int .u8 77, .int .u8 84, .int .u8 104, .int .u8 100, .int .u8 0, .int .u8 0, .int .u8 0, .int .u8 6] 5 (8, 9))).cell? ⟨n0, 1, none⟩ = some (.int .i64 C0) := (G0 (I1 Y.out _) 1).trans rfl; have zJ := Y0 (I1 Y.out (.cells #[.int .u8 77, .int .u8 84, .int .u8 104, .int .u8 100, .int .u8 0, .int .u8 0, .int .u8 0, .int .u8 6] 5 (8, 9))) 1; have CJ : (w6.alloc (.cells #[.int .u8 77, .int .u8 84, .int .u8 104, .int .u8 100, .int .u8 0, .int .u8 0, .int .u8 0, .int .u8 6] 5 (8, 9))).cell? ⟨n0, 2, none⟩ = some (.slice Q3 B0.length N3) := (G0 (I1 Y.out _) 2).trans rfl; have DJ := Y0 (I1 Y.out (.cells #[.int .u8 77, .int .u8 84, .int .u8 104, .int .u8 100, .int .u8 0, .int .u8 0, .int .u8 0, .int .u8 6] 5 (8, 9))) 2) | ((with_reducible refine P2 (N := 31) rfl ?_); refine Kd.PF (Kd.int .i64) _ 3 ?hg (N := 31) ?hd (xs := ([I0, (B0.length : Int), C0] : List Int)) (inner := [.int .i64 I0, .int .i64 (B0.length : Int), .int .i64 C0]) (ok := fun _ => True) (okp := fun _ => True) ?hr ?hp (fun _ X => X) trivial (Below.refl _ _) (Nat.le_refl _) (by simp) ?_; (case hd => rfl); (case hg => rfl); (case hr => exact Z2); (case hp => exact (J2.one (show Kd.M (Kd.int .i64) _ _ _ I0 [.int .i64 I0] from rfl) (J2.one (show Kd.M (Kd.int .i64) _ _ _ (B0.length : Int) [.int .i64 (B0.length : Int)] from rfl) (J2.one (show Kd.M (Kd.int .i64) _ _ _ C0 [.int .i64 C0] from rfl) (J2.none _ _))))); intro kG AU Sf G i3 e7; clear i3 e7; (rw [← MG.out] at Sf); have N5 := am (YD.below (YD.start w6 Sa.out (S3 I.out)) G); have r_ := am (Kd.j9 Sf (S3 (S0 H0 I.out))); replace Y := am (O0 (bq Y.out) G); replace I := am (T0 (S0 H0 I.out) G); clear G Sf; obtain ⟨Pc, Ic, Wj⟩ := Kd.Q9 r_.out; subst Wj)); go_loopg [6, 33] k (fun kq v6 v33 w' => ∃ (F6 : List Int) (K_ : Int), v33 = .int .i64 K_ ∧ Aside0 (Q5.l0 kq F6 R3 (R3.length : Int) K_ I0 C0 B0 = some (r1, r2)) ∧ Aside0 (kq ≤ k) ∧ Aside0 (Kd.R (Kd.int .u8) 5 w' w.heap.size (fun _ => True) v6 F6 ∨ (YD w' w.heap.size v6 F6 ∧ K_ = 0)) ∧ Aside0 (Kd.R (Kd.int .i64) 3 w' w.heap.size (fun _ => True) (.slice Pc R3.length Ic) R3) ∧ Aside0 (w'.heap[n0]? = some (.cells #[.int .i64 I0, .int .i64 C0, (.slice Q3 B0.length N3)] 24 (0, 0))) ∧ Aside0 (Below w.heap.size w w'))
 case atStart => exact ⟨(NH), (0), (by rfl), H', ⟨Nat.le_refl _⟩, ⟨.inr ⟨(by repeat (exact N5.out)), rfl⟩⟩, ⟨qR r_.out⟩, ⟨bq Y.out⟩, ⟨S0 H0 I.out⟩⟩
 case round =>
  clear H'; obtain ⟨F6, K_, rfl, HA, S4, vA, tH, Y, I⟩ := hrel; cases gk with
  | zero => exact absurd HA.out (by simp [Q5.l0])
  | succ k1 =>
   have H := HA.out; clear HA; simp only [Q5.l0] at H; by_cases P8 : K_ < (R3.length : Int)
   ·rw [if_pos P8] at H; have QQ : decide (K_ < (R3.length : Int)) = true := decide_eq_true P8; clear P8; by_cases F8 : 0 ≤ K_; rotate_left
    ·rw [if_neg F8] at H; exact absurd H (by simp)
    rw [if_pos F8] at H; have DM : decide (0 ≤ K_) = true := decide_eq_true F8; clear F8; by_cases i5 : K_ < (R3.length : Int); rotate_left
    ·rw [if_neg i5] at H; exact absurd H (by simp)
    rw [if_pos i5] at H; have oJ : decide (K_ < (R3.length : Int)) = true := decide_eq_true i5; clear i5; obtain ⟨ID, OI⟩ : ∃ y_ : List Int, y_ = (([((rd R3 K_) / 256) % 256, (rd R3 K_) % 256] : List Int)) := ⟨_, rfl⟩
    replace H : (if F6.length + ID.length < 140737488355328 then (Q5.l0 k1 (F6 ++ ID) R3 (R3.length : Int) (wrap64 (K_ + 1)) I0 C0 B0) else (none)) = some (r1, r2) := by (have S6 := (Option.bind_some _ _).symm.trans H; rw [OI]; with_reducible exact S6)
    have CN := am OI; clear OI; by_cases Q8 : F6.length + ID.length < 140737488355328; rotate_left
    ·rw [if_neg Q8] at H; exact absurd H (by simp)
    rw [if_pos Q8] at H; have Nx := am Q8; clear Q8; obtain ⟨QG, II⟩ : ∃ y_ : List Int, y_ = (F6 ++ ID) := ⟨_, rfl⟩
    replace H : (Q5.l0 k1 QG R3 (R3.length : Int) (wrap64 (K_ + 1)) I0 C0 B0) = some (r1, r2) := by (rw [II]; with_reducible exact H)
    have iQ := am II; clear II; have H' := am H; clear H; have Jb : 0 ≤ (K_ : Int) := of_decide_eq_true R1; have Ka : K_ < (R3.length : Int) := of_decide_eq_true R1; obtain ⟨dx2, bv4, du6⟩ := Kd.XH (Kd.n_ tH.out).2.2 K_ Jb Ka; cases bv4; replace Jb := eq_true Jb; replace Ka := eq_true Ka; rcases vA.out with NS | ⟨Qx, h33⟩
    ·clear vA; have vA := am NS; clear NS; go_wp2_with (first | ((with_reducible refine P2 (N := 43) rfl ?_); refine Kd.PF (Kd.int .u8) _ 5 ?hg (N := 43) ?hd (xs := ([((rd R3 K_) / 256) % 256, (rd R3 K_) % 256] : List Int)) (inner := [.int .u8 (((rd R3 K_) / 256) % 256), .int .u8 ((rd R3 K_) % 256)]) (ok := fun _ => True) (okp := fun _ => True) ?hr ?hp (fun _ X => X) trivial (Below.refl _ _) (Nat.le_refl _) (by simp) ?_; (case hd => rfl); (case hg => rfl); (case hr => exact Z2); (case hp => exact qqZ); intro GX E7 QE G i3 e7; clear i3 e7; (rw [← CN.out] at QE); replace tH := am (Kd.j7 (qR tH.out) G); have QC := am (Kd.j9 (Kd.iF QE (Kd.D_ (qR vA.out))) (S3 (S0 H0 I.out))); replace vA := am (Kd.kF (qR vA.out) (Kd.A_ QE) G); replace Y := am (O0 (bq Y.out) G); replace I := am (T0 (S0 H0 I.out) G); clear G QE; obtain ⟨oS, mC, mD⟩ := Kd.Q9 QC.out; subst mD) | ((with_reducible refine O_ (b := .append) (xs := #[.tmp 37, .tmp 43]) rfl ?_); at_builtin; refine Kd.jJ (Kd.int .u8) (w0 := w) w.heap.size rfl (.tmp 37) (.tmp 43) 39 5 (.int .u8 0) 1 rfl Try.underlying39 OA rfl (by decide) (by omega) u6 F6 ID _ _ _ (fun k_ => some k_ ≠ (.slice oS ID.length mC : Value).ownBlock) (fun _ => False) rfl rfl ?aO ?aR (fun _ _ h => h) (fun _ h => h.elim) ?aF ?aB ?aS ?aL ?_; (case aR => repeat (exact (Kd.n_ QC.out).2.2)); (case aB => exact (S0 H0 I.out)); (case aF => exact (fun k_ X => Kd.I7 (Kd.D_ (qR QC.out)) k_ X)); (case aO => exact (by (with_reducible repeat (first | apply Kd.GE | apply Kd.dE | apply Kd.EE)); exact Kd.Y5 vA.out (fun _ X => X.2))); (case aS => exact (S3 (S0 H0 I.out))); (case aL => have := Nx.out; omega); intro VR R5 ho G hg O1; rw [← iQ.out] at ho; replace tH := am (Kd.cy5 (qR tH.out) (Kd.Rm (qR vA.out)) (by decide) hg); replace Y := am (U6 (bq Y.out) hg (Kd.n9 vA.out Y.out (by decide))); replace QC := am (Kd.QB (ok := (fun _ => True)) (qR QC.out) hg O1); replace I := am (G); have n5 := am (ho); clear vA; clear ho G hg O1)); go_roundg k1
     case measure => have := S4.out; omega
     case rel => exact ⟨(QG), (wrap64 (K_ + 1)), (by rfl), H', ⟨C_⟩, ⟨.inl ag5⟩, ⟨qR tH.out⟩, ⟨bq Y.out⟩, ⟨S0 H0 I.out⟩⟩
    clear vA h33; have vA := am Qx; clear Qx; go_wp2_with (first | ((with_reducible refine P2 (N := 43) rfl ?_); refine Kd.PF (Kd.int .u8) _ 5 ?hg (N := 43) ?hd (xs := ([((rd R3 K_) / 256) % 256, (rd R3 K_) % 256] : List Int)) (inner := [.int .u8 (((rd R3 K_) / 256) % 256), .int .u8 ((rd R3 K_) % 256)]) (ok := fun _ => True) (okp := fun _ => True) ?hr ?hp (fun _ X => X) trivial (Below.refl _ _) (Nat.le_refl _) (by simp) ?_; (case hd => rfl); (case hg => rfl); (case hr => exact Z2); (case hp => exact qqZ); intro GX E7 QE G i3 e7; clear i3 e7; (rw [← CN.out] at QE); replace vA := am (YD.below (by repeat (exact vA.out)) G); replace tH := am (Kd.j7 (qR tH.out) G); have QC := am (Kd.j9 QE (S3 (S0 H0 I.out))); replace Y := am (O0 (bq Y.out) G); replace I := am (T0 (S0 H0 I.out) G); clear G QE; obtain ⟨oS, mC, mD⟩ := Kd.Q9 QC.out; subst mD) | ((with_reducible refine O_ (b := .append) (xs := #[.tmp 37, .tmp 43]) rfl ?_); at_builtin; refine cu9 (w0 := w) w.heap.size rfl (.tmp 37) (.tmp 43) 39 rfl Try.underlying39 OA u6 F6 ID _ _ _ w.heap.size (fun _ => True) rfl rfl ?aP ?aO ?aY ?aB ?aS ?aL ?_; (case aP => rw [CN.out]; simp); (case aO => exact (by repeat (exact vA.out))); (case aY => exact (qR QC.out)); (case aB => exact (S0 H0 I.out)); (case aS => exact (S3 (S0 H0 I.out))); (case aL => have := Nx.out; omega); intro VR R5 ho G hg O1; rw [← iQ.out] at ho; have N2 := am (Kd.ct4 (qR tH.out) hg (fun _ _ => by simp)); have R2 := am (U6 (bq Y.out) hg (by simp)); have Q4 := am (G); have C6 := am (ho); clear tH; clear Y; clear QC; clear I; clear vA; have tH := N2; have Y := R2; have I := Q4; have n5 := C6; clear N2 R2 Q4 C6; clear ho G hg O1)); go_roundg k1
    case measure => have := S4.out; omega
    case rel => exact ⟨(QG), (wrap64 (K_ + 1)), (by rfl), H', ⟨C_⟩, ⟨.inl ag5⟩, ⟨qR tH.out⟩, ⟨bq Y.out⟩, ⟨S0 H0 I.out⟩⟩
   rw [if_neg P8] at H; have NS := vA.out.resolve_right (fun h_ => P8 (by rw [h_.2, MG.out]; simp)); clear vA; have vA := am NS; clear NS; have QQ : decide (K_ < (R3.length : Int)) = false := decide_eq_false P8; clear P8; have H' := am H; clear H; obtain ⟨IS, KU, ZS, PT, fS, LS⟩ := V2 Y.out; go_wp2; go_loopg [6, 49] k1 (fun kq v6 Bk w' => ∃ (VI : List Int) (D6 : Int), Bk = .int .i64 D6 ∧ Aside0 (Q5.l1 kq VI B0 (B0.length : Int) D6 = some (r1, r2)) ∧ Aside0 (kq ≤ k1) ∧ Aside0 (Kd.R (Kd.int .u8) 5 w' w.heap.size (fun _ => True) v6 VI) ∧ Aside0 (w'.heap[n0]? = some (.cells #[.int .i64 I0, .int .i64 C0, (.slice Q3 B0.length N3)] 24 (0, 0))) ∧ Aside0 (Below w.heap.size w w'))
   case atStart => exact ⟨(F6), (0), (by rfl), H', ⟨Nat.le_refl _⟩, ⟨qR vA.out⟩, ⟨bq Y.out⟩, ⟨S0 H0 I.out⟩⟩
   case round =>
    clear H'; obtain ⟨VI, D6, rfl, HA, TA, vA, Y, I⟩ := hrel; cases gk with
    | zero => exact absurd HA.out (by simp [Q5.l1])
    | succ k2 =>
     have H := HA.out; clear HA; simp only [Q5.l1] at H; by_cases P5 : D6 < (B0.length : Int); rotate_left
     ·rw [if_neg P5] at H; have RG : decide (D6 < (B0.length : Int)) = false := decide_eq_false P5; clear P5; by_cases X9 : (VI.length : Int) > 100000
      ·rw [if_pos X9] at H; have YP : decide (100000 < (VI.length : Int)) = true := decide_eq_true X9; have UT : decide (100000 < VI.length) = true := decide_eq_true (by omega); clear X9; simp only [Option.some.injEq, Prod.mk.injEq] at H; obtain ⟨rfl, rfl⟩ := H; obtain ⟨br8, bb1, Ba⟩ := Kd.Q9 vA.out; subst Ba; go_wp2; go_ret2; exact ⟨by rfl, S0 H0 I.out⟩
      rw [if_neg X9] at H; have YP : decide (100000 < (VI.length : Int)) = false := decide_eq_false X9; have UT : decide (100000 < VI.length) = false := decide_eq_false (by omega); clear X9; simp only [Option.some.injEq, Prod.mk.injEq] at H; obtain ⟨rfl, rfl⟩ := H; obtain ⟨dj2, fa7, cj9⟩ := Kd.Q9 vA.out; subst cj9; have ay8 := vL (P := Try.prog) Try.underlying39 Try.underlying5 Try.underlying9 (Kd.yG vA.out); go_wp2; go_ret2; exact ⟨by rfl, S0 H0 I.out⟩
     rw [if_pos P5] at H; have RG : decide (D6 < (B0.length : Int)) = true := decide_eq_true P5; clear P5; by_cases L5 : 0 ≤ D6; rotate_left
     ·rw [if_neg L5] at H; exact absurd H (by simp)
     rw [if_pos L5] at H; have EF : decide (0 ≤ D6) = true := decide_eq_true L5; clear L5; by_cases b6 : D6 < (B0.length : Int); rotate_left
     ·rw [if_neg b6] at H; exact absurd H (by simp)
     rw [if_pos b6] at H; have SE : decide (D6 < (B0.length : Int)) = true := decide_eq_true b6; clear b6; replace H := L2 H; obtain ⟨⟨J3, EB⟩, zU, H⟩ := H; have tU := am zU; clear zU; by_cases i6 : VI.length + 4 < 140737488355328; rotate_left
     ·rw [if_neg i6] at H; exact absurd H (by simp)
     rw [if_pos i6] at H; have bq3 := am i6; clear i6; obtain ⟨DI, Ib⟩ : ∃ y_ : List Int, y_ = (VI ++ bytesOf (⟨#[77, 84, 114, 107]⟩ : ByteArray)) := ⟨_, rfl⟩
     replace H : ((some (([((J3.size : Int) / 16777216) % 256, ((J3.size : Int) / 65536) % 256, ((J3.size : Int) / 256) % 256, ((J3.size : Int)) % 256] : List Int) : List Int)).bind fun W5 => (if DI.length + W5.length < 140737488355328 then ((some (DI ++ W5 : List Int)).bind fun oG => (if oG.length + J3.size < 140737488355328 then (Q5.l1 k2 (oG ++ bytesOf J3) B0 (B0.length : Int) (wrap64 (D6 + 1))) else (none))) else (none))) = some (r1, r2) := by (have S6 := (Option.bind_some _ _).symm.trans H; rw [Ib]; with_reducible exact S6)
     have az1 := am Ib; clear Ib; obtain ⟨W5, eL⟩ : ∃ y_ : List Int, y_ = (([((J3.size : Int) / 16777216) % 256, ((J3.size : Int) / 65536) % 256, ((J3.size : Int) / 256) % 256, ((J3.size : Int)) % 256] : List Int)) := ⟨_, rfl⟩
     replace H : (if DI.length + W5.length < 140737488355328 then ((some (DI ++ W5 : List Int)).bind fun oG => (if oG.length + J3.size < 140737488355328 then (Q5.l1 k2 (oG ++ bytesOf J3) B0 (B0.length : Int) (wrap64 (D6 + 1))) else (none))) else (none)) = some (r1, r2) := by (have S6 := (Option.bind_some _ _).symm.trans H; rw [eL]; with_reducible exact S6)
     have gX := am eL; clear eL; by_cases Q6 : DI.length + W5.length < 140737488355328; rotate_left
     ·rw [if_neg Q6] at H; exact absurd H (by simp)
     rw [if_pos Q6] at H; have Ab := am Q6; clear Q6; obtain ⟨oG, Yi⟩ : ∃ y_ : List Int, y_ = (DI ++ W5) := ⟨_, rfl⟩
     replace H : (if oG.length + J3.size < 140737488355328 then (Q5.l1 k2 (oG ++ bytesOf J3) B0 (B0.length : Int) (wrap64 (D6 + 1))) else (none)) = some (r1, r2) := by (have S6 := (Option.bind_some _ _).symm.trans H; rw [Yi]; with_reducible exact S6)
     have bc6 := am Yi; clear Yi; by_cases J9 : oG.length + J3.size < 140737488355328; rotate_left
     ·rw [if_neg J9] at H; exact absurd H (by simp)
     rw [if_pos J9] at H; have bp1 := am J9; clear J9; obtain ⟨Rd, Qb⟩ : ∃ y_ : List Int, y_ = (oG ++ bytesOf J3) := ⟨_, rfl⟩
     replace H : (Q5.l1 k2 Rd B0 (B0.length : Int) (wrap64 (D6 + 1))) = some (r1, r2) := by (rw [Qb]; with_reducible exact H)
     have bc0 := am Qb; clear Qb; have H' := am H; clear H; have Qe : 0 ≤ (D6 : Int) := of_decide_eq_true R1; have Tb : D6 < (B0.length : Int) := of_decide_eq_true R1; obtain ⟨dm8, au2, av0, cc4, Oo, Py, Wx⟩ := R9 X6.out D6 Qe Tb; cases cc4; replace Oo := W0 I.out Oo; have aw9 := am Wx; have cj2 := am Py; clear Wx Py; replace Qe := eq_true Qe; replace Tb := eq_true Tb; go_wp2_with (first | ((with_reducible refine H2 (f := 22) rfl ?_); refine G2 (some 55) rfl rfl Try.func22 (by kernel_rfl) rfl #[.slice au2 (L0 B0 D6).length av0] rfl F2 ?_; (with_reducible refine (z5.calls k2 _ _ (L0 B0 D6) J3 EB _ ?side1 ?side2 tU.out).mono ?_); (case side1 => repeat (exact (Kd.cB aw9.out I.out))); (case side2 => exact cj2.out); rintro e MT ⟨rfl, G⟩; refine ⟨_, rfl, ?_⟩; replace vA := am (Kd.j7 (qR vA.out) G); replace Y := am (O0 (bq Y.out) G); replace I := am (T0 (S0 H0 I.out) G); ) | (at_builtin; refine HZ (w0 := w) w.heap.size rfl (.tmp 60) _ 39 9 5 rfl Try.underlying39 Try.underlying9 OA u6 VI (⟨#[77, 84, 114, 107]⟩ : ByteArray) rfl rfl ?aO ?aB ?aS ?aL ?_; (case aB => exact (S0 H0 I.out)); (case aO => exact (Kd.yG (qR vA.out))); (case aS => exact (S3 (S0 H0 I.out))); (case aL => have := bq3.out; have Z7 : (⟨#[77, 84, 114, 107]⟩ : ByteArray).size = 4 := rfl; omega); intro Pw Nh T3 G hg; have ho := Kd.bR (h1 := fun _ => rfl) (ok := fun _ => True) T3 (fun _ _ => trivial); clear T3; have O1 := True.intro; rw [← az1.out] at ho; change Kd.R (Kd.int .u8) 5 Nh w.heap.size (fun _ => True) Pw DI at ho; replace Y := am (U6 (bq Y.out) hg (Kd.n9 vA.out Y.out (by decide))); replace I := am (G); have tQ := am (ho); clear vA; clear ho G hg O1) | ((with_reducible refine P2 (N := 73) rfl ?_); refine Kd.PF (Kd.int .u8) _ 5 ?hg (N := 73) ?hd (xs := ([((J3.size : Int) / 16777216) % 256, ((J3.size : Int) / 65536) % 256, ((J3.size : Int) / 256) % 256, ((J3.size : Int)) % 256] : List Int)) (inner := [.int .u8 (((J3.size : Int) / 16777216) % 256), .int .u8 (((J3.size : Int) / 65536) % 256), .int .u8 (((J3.size : Int) / 256) % 256), .int .u8 (((J3.size : Int)) % 256)]) (ok := fun _ => True) (okp := fun _ => True) ?hr ?hp (fun _ X => X) trivial (Below.refl _ _) (Nat.le_refl _) (by simp) ?_; (case hd => rfl); (case hg => rfl); (case hr => exact Z2); (case hp => exact (J2.one (show Kd.M (Kd.int .u8) _ _ _ (((J3.size : Int) / 16777216) % 256) [.int .u8 (((J3.size : Int) / 16777216) % 256)] from rfl) (J2.one (show Kd.M (Kd.int .u8) _ _ _ (((J3.size : Int) / 65536) % 256) [.int .u8 (((J3.size : Int) / 65536) % 256)] from rfl) (J2.one (show Kd.M (Kd.int .u8) _ _ _ (((J3.size : Int) / 256) % 256) [.int .u8 (((J3.size : Int) / 256) % 256)] from rfl) (J2.one (show Kd.M (Kd.int .u8) _ _ _ (((J3.size : Int)) % 256) [.int .u8 (((J3.size : Int)) % 256)] from rfl) (J2.none _ _)))))); intro QR EU TW G i3 e7; clear i3 e7; (rw [← gX.out] at TW); have I_ := am (Kd.j9 (Kd.iF TW (Kd.D_ (qR tQ.out))) (S3 (S0 H0 I.out))); replace tQ := am (Kd.kF (qR tQ.out) (Kd.A_ TW) G); replace Y := am (O0 (bq Y.out) G); replace I := am (T0 (S0 H0 I.out) G); clear G TW; obtain ⟨FC, XB, Ng⟩ := Kd.Q9 I_.out; subst Ng) | ((with_reducible refine O_ (b := .append) (xs := #[.tmp 61, .tmp 73]) rfl ?_); at_builtin; refine Kd.jJ (Kd.int .u8) (w0 := w) w.heap.size rfl (.tmp 61) (.tmp 73) 39 5 (.int .u8 0) 1 rfl Try.underlying39 OA rfl (by decide) (by omega) Pw DI W5 _ _ _ (fun k_ => some k_ ≠ (.slice FC W5.length XB : Value).ownBlock) (fun _ => False) rfl rfl ?aO ?aR (fun _ _ h => h) (fun _ h => h.elim) ?aF ?aB ?aS ?aL ?_; (case aR => repeat (exact (Kd.n_ I_.out).2.2)); (case aB => exact (S0 H0 I.out)); (case aF => exact (fun k_ X => Kd.I7 (Kd.D_ (qR I_.out)) k_ X)); (case aO => exact (by (with_reducible repeat (first | apply Kd.GE | apply Kd.dE | apply Kd.EE)); exact Kd.Y5 tQ.out (fun _ X => X.2))); (case aS => exact (S3 (S0 H0 I.out))); (case aL => have := Ab.out; omega); intro Js rH ho G hg O1; rw [← bc6.out] at ho; replace Y := am (U6 (bq Y.out) hg (Kd.n9 tQ.out Y.out (by decide))); replace I_ := am (Kd.QB (ok := (fun _ => True)) (qR I_.out) hg O1); replace I := am (G); have C9 := am (ho); clear tQ; clear ho G hg O1) | (at_builtin; refine HZ (w0 := w) w.heap.size rfl (.tmp 75) _ 39 9 5 rfl Try.underlying39 Try.underlying9 OA Js oG J3 rfl rfl ?aO ?aB ?aS ?aL ?_; (case aB => exact (S0 H0 I.out)); (case aO => exact (Kd.yG (by (with_reducible repeat (first | apply Kd.GE | apply Kd.dE | apply Kd.EE)); exact Kd.Y5 C9.out (fun _ X => trivial)))); (case aS => exact (S3 (S0 H0 I.out))); (case aL => have := bp1.out; omega); intro au0 qW T3 G hg; have ho := Kd.bR (h1 := fun _ => rfl) (ok := fun _ => True) T3 (fun _ _ => trivial); clear T3; have O1 := True.intro; rw [← bc0.out] at ho; change Kd.R (Kd.int .u8) 5 qW w.heap.size (fun _ => True) au0 Rd at ho; replace Y := am (U6 (bq Y.out) hg (Kd.n9 C9.out Y.out (by decide))); replace I := am (G); have bl2 := am (ho); clear C9; clear ho G hg O1)); go_roundg k2
     case measure => have := S4.out; have := TA.out; omega
     case rel => exact ⟨(Rd), (wrap64 (D6 + 1)), (by rfl), H', ⟨by have := S4.out; have := TA.out; omega⟩, ⟨qR bl2.out⟩, ⟨bq Y.out⟩, ⟨S0 H0 I.out⟩⟩
def jC.f (a0 : Int) : Option (Int × Int × Int × Int × Int × ByteArray) := some (a0, 16, 0, 47, 0, (⟨#[]⟩ : ByteArray))
set_option maxHeartbeats 8000000 in
set_option maxRecDepth 100000 in
theorem jC.calls (a0 : Int) (r1 : Int) (r2 : Int) (r3 : Int) (r4 : Int) (r5 : Int) (r6 : ByteArray) (w : World) (h : jC.f a0 = some (r1, r2, r3, r4, r5, r6)) :
 Calls Try.prog 13 #[.int .i64 a0] w fun e w' => e = .returned (.agg #[.int .i64 r1, .int .i64 r2, .int .i64 r3, .int .i64 r4, .int .i64 r5, .string r6]) ∧ Below w.heap.size w w' := by
 have WB := Try.underlying28; have I := am (Below.refl w.heap.size w); have H := h; unfold jC.f at H; clear h; simp only [Option.some.injEq, Prod.mk.injEq] at H; obtain ⟨rfl, rfl, rfl, rfl, rfl, rfl⟩ := H; go_enter Try.func13, Try.ntmps13; go_wp2_with (((with_reducible refine P2 (N := 2) rfl ?_); refine D3 ?hg (N := 2) ?hd (cs := #[.int .i64 0, .int .i64 0, .int .i64 0, .int .i64 0, .int .i64 0, .string (⟨#[]⟩ : ByteArray)]) (t := 28) ?hr ?_; (case hd => rfl); (case hg => rfl); (case hr => exact Y9); intro n0 hg w2 M0 G; have Y := am (M0); have W6 := am ((U2 : w.heap.size ≤ n0)); have H0 := am ((U2 : w.heap.size ≤ n0)); replace I := am (T0 (qB I.out) G); clear G M0 hg; obtain ⟨dy4, fm5, er4, ek3, ea9, es8, el9, eg8, dn2, eu4, es2, dz6⟩ := S1 Y.out)); refine bodyPost_ret (results_cell_row rfl _ _ n0 28 #[.int .i64 a0, .int .i64 16, .int .i64 0, .int .i64 47, .int .i64 0, .string (⟨#[]⟩ : ByteArray)] (0, 0) _ rfl (by refine bq ?_; refine J0 (cs := #[.int .i64 a0, .int .i64 16, .int .i64 0, .int .i64 47, .int .i64 0, .string (⟨#[]⟩ : ByteArray)]) ?_ 5 _ rfl; refine bq ?_; refine J0 (cs := #[.int .i64 a0, .int .i64 16, .int .i64 0, .int .i64 47, .int .i64 0, .string (⟨#[]⟩ : ByteArray)]) ?_ 4 _ rfl; refine bq ?_; refine J0 (cs := #[.int .i64 a0, .int .i64 16, .int .i64 0, .int .i64 0, .int .i64 0, .string (⟨#[]⟩ : ByteArray)]) ?_ 3 _ rfl; refine bq ?_; refine J0 (cs := #[.int .i64 a0, .int .i64 16, .int .i64 0, .int .i64 0, .int .i64 0, .string (⟨#[]⟩ : ByteArray)]) ?_ 2 _ rfl; refine bq ?_; refine J0 (cs := #[.int .i64 a0, .int .i64 0, .int .i64 0, .int .i64 0, .int .i64 0, .string (⟨#[]⟩ : ByteArray)]) ?_ 1 _ rfl; refine bq ?_; refine J0 (cs := #[.int .i64 0, .int .i64 0, .int .i64 0, .int .i64 0, .int .i64 0, .string (⟨#[]⟩ : ByteArray)]) ?_ 0 _ rfl; exact bq Y.out) Try.underlying28 rfl (by kernel_rfl)) rfl ?_; exact ⟨L_, S0 H0 I.out⟩
end Go.Proofs.Ytdmnknhlibaaoaa.M
namespace Go.Proofs.Ytdmnknhlibaaoaa.M
open Go.RowKit Go.Proofs.YtdmnknhlibaaoaaW.PrintWords Go.Proofs.YtdmnknhlibaaoaaW.PrintLast Go.Proofs.YtdmnknhlibaaoaaW.PrintMore
set_option linter.unusedVariables false
set_option linter.unusedSimpArgs false
def W4 (w0 W : World) (g : Nat) (f0 : ByteArray) (f1 : Int) : Prop := W.heap[g]? = some (.cells #[.string f0, .int .i64 f1] 60 (0, 0)) ∧ w0.heap.size ≤ g
theorem W4.grown {w0 W : World} {g : Nat} {f0 : ByteArray} {f1 : Int} {W1 : World} {row : Option Nat} (h : W4 w0 W g f0 f1) (hw : W.grownBy W1 row) (J8 : some g ≠ row) : W4 w0 W1 g f0 f1 := by
 obtain ⟨G, hg⟩ := h
 exact ⟨U6 G hw J8, hg⟩
theorem W4.kept {w0 W : World} {g : Nat} {f0 : ByteArray} {f1 : Int} {W1 : World} {S : Nat → Prop} (h : W4 w0 W g f0 f1) (X : Kept W W1 S) (J8 : ¬ S g) : W4 w0 W1 g f0 f1 := by
 obtain ⟨G, hg⟩ := h
 exact ⟨at1 G X J8, hg⟩
theorem W4.below {w0 W : World} {g : Nat} {f0 : ByteArray} {f1 : Int} {W1 : World} (h : W4 w0 W g f0 f1) (hw : Below W.heap.size W W1) : W4 w0 W1 g f0 f1 := h.grown (Mn hw none) (by simp)
theorem W4.alloc {w0 W : World} {g : Nat} {f0 : ByteArray} {f1 : Int} (h : W4 w0 W g f0 f1) (o : Obj) : W4 w0 (W.alloc o) g f0 f1 := h.below (I6 (Below.refl _ _) o)
theorem W4.drewN {w0 W : World} {g : Nat} {f0 : ByteArray} {f1 : Int} (h : W4 w0 W g f0 f1) (m : Nat) : W4 w0 (W.drewN m) g f0 f1 := h
theorem W4.drew {w0 W : World} {g : Nat} {f0 : ByteArray} {f1 : Int} (h : W4 w0 W g f0 f1) : W4 w0 W.drew g f0 f1 := h
theorem W4.at_ {w0 W : World} {g : Nat} {f0 : ByteArray} {f1 : Int} {w' : World} {m : Nat} (hq : W.drewN m = w') (h : W4 w0 W g f0 f1) : W4 w0 w' g f0 f1 := by subst hq; exact W4.drewN h m
theorem W4.apart {w0 W : World} {g : Nat} {f0 : ByteArray} {f1 : Int} {α : Type} {d : Kd α} {e : Nat} {base : Nat} {ok : Nat → Prop} {v : Value} {xs : List α} (h : W4 w0 W g f0 f1) (ho : d.R e W base ok v xs) (ht : ∀ q, q ∈ e :: d.E → q ≠ 60) : d.R e W base (fun k => ok k ∧ k ≠ g) v xs := by
 obtain ⟨G, hg⟩ := h
 exact Kd.kA ho G ht
theorem W4.own_ne {w0 W : World} {g : Nat} {f0 : ByteArray} {f1 : Int} {α : Type} {d : Kd α} {e : Nat} {base : Nat} {ok : Nat → Prop} {v : Value} {xs : List α} (h : W4 w0 W g f0 f1) (ho : d.R e W base ok v xs) (ht : e ≠ 60) : some g ≠ v.ownBlock := by
 obtain ⟨G, hg⟩ := h
 exact Kd.n9 ho G ht
theorem W4.lt {w0 W : World} {g : Nat} {f0 : ByteArray} {f1 : Int} (h : W4 w0 W g f0 f1) : g < W.heap.size := by
 obtain ⟨G, hg⟩ := h
 exact K8 G
theorem W4.ge {w0 W : World} {g : Nat} {f0 : ByteArray} {f1 : Int} (h : W4 w0 W g f0 f1) : w0.heap.size ≤ g := by
 obtain ⟨G, hg⟩ := h
 exact hg
theorem W4.ne_blk {w0 W : World} {g : Nat} {f0 : ByteArray} {f1 : Int} {a : Nat} {cs : Array Value} {t : TypeId} {fr : Nat × Nat} (h : W4 w0 W g f0 f1) (C5 : W.heap[a]? = some (.cells cs t fr)) (ht : t ≠ 60) : g ≠ a := by
 obtain ⟨G, hg⟩ := h
 rintro rfl
 rw [G] at C5
 injection C5 with C5
 injection C5 with _ ht2
 exact ht ht2.symm
theorem W4.far {w0 W : World} {g : Nat} {f0 : ByteArray} {f1 : Int} {p : Addr} (h : W4 w0 W g f0 f1) (J8 : g ≠ p.block) (u : Value) : W4 w0 (W.setCell p u) g f0 f1 := by
 obtain ⟨G, hg⟩ := h
 exact ⟨P0 G J8 u, hg⟩
theorem pP {W : World} {g : Nat} {f0 : ByteArray} {f1 : Int} (h : W.heap[g]? = some (.cells #[.string f0, .int .i64 f1] 60 (0, 0))) : W.cell? ⟨g, 0, none⟩ = some (.string f0) := (G0 h 0).trans rfl
theorem W4.set_0 {w0 W : World} {g : Nat} {f0 : ByteArray} {f1 : Int} (h : W4 w0 W g f0 f1) (x : ByteArray) : W4 w0 (W.setCell ⟨g, 0, none⟩ (.string x)) g x f1 := by
 obtain ⟨G, hg⟩ := h
 exact ⟨by simpa using DB G 0 (.string x), hg⟩
theorem rL {W : World} {g : Nat} {f0 : ByteArray} {f1 : Int} (h : W.heap[g]? = some (.cells #[.string f0, .int .i64 f1] 60 (0, 0))) : W.cell? ⟨g, 1, none⟩ = some (.int .i64 f1) := (G0 h 1).trans rfl
theorem W4.set_1 {w0 W : World} {g : Nat} {f0 : ByteArray} {f1 : Int} (h : W4 w0 W g f0 f1) (x : Int) : W4 w0 (W.setCell ⟨g, 1, none⟩ (.int .i64 x)) g f0 x := by
 obtain ⟨G, hg⟩ := h
 exact ⟨by simpa using DB G 1 (.int .i64 x), hg⟩
theorem W4.new (w0 W : World) (f0 : ByteArray) (f1 : Int) (hB : Below w0.heap.size w0 W) : W4 w0 (W.alloc (.cells #[.string f0, .int .i64 f1] 60)) W.heap.size f0 f1 := ⟨by simpa using heap_alloc_new W _, hB.size⟩
end Go.Proofs.Ytdmnknhlibaaoaa.M
namespace Go.Proofs.Ytdmnknhlibaaoaa.M
open Go.RowKit Go.Proofs.YtdmnknhlibaaoaaW.PrintWords Go.Proofs.YtdmnknhlibaaoaaW.PrintLast Go.Proofs.YtdmnknhlibaaoaaW.PrintMore
set_option linter.unusedVariables false
set_option linter.unusedSimpArgs false
def gone (at_ e : Int) : Ending := .panicked [{ v := .iface 57 (.agg #[.int .i64 at_, .int .i64 e]), recovered := false }]
theorem oF (at_ e : Int) (w : World) : Calls Try.prog 34 #[.int .i64 at_, .int .i64 e] w fun x w' => x = gone at_ e ∧ w' = w := by
 go_enter Try.func34, Try.ntmps34
 go_wp2
 exact ⟨rfl, rfl, rfl⟩
set_option maxHeartbeats 8000000 in
set_option maxRecDepth 100000 in
theorem jZ (g : Nat) (s : ByteArray) (p n : Int) (w0 w : World) (hI : W4 w0 w g s p) (hB : Below w0.heap.size w0 w) (hp : 0 ≤ p ∧ p ≤ s.size) (hs : s.size ≤ 100000) (hn : 0 ≤ n ∧ n ≤ 4294967296) :
 Calls Try.prog 55 #[.pointer (some ⟨g, 0, none⟩), .int .i64 n] w fun e w' => Below w0.heap.size w0 w' ∧ F1 w w' g none ∧
  ((n > s.size - p ∧ e = gone s.size 152) ∨ (n ≤ s.size - p ∧ e = .returned (.string (s.extract p.toNat (p + n).toNat)) ∧ W4 w0 w' g s (p + n))) := by
 have c0 := pP hI.1
 have c1 := rL hI.1
 have f1 : w.frozen? ⟨g, 1, none⟩ = false := Y0 hI.1 1
 have hw : wrap64 ((s.size : Int) - p) = (s.size : Int) - p := by unfold wrap64; omega
 by_cases h : n > (s.size : Int) - p
 ·have hd : decide (n > (s.size : Int) - p) = true := decide_eq_true h
  go_enter Try.func55, Try.ntmps55
  go_wp2
  go_quiet (fail)
  go_wp2_with (go_at_call 34; refine (oF _ _ _).mono ?_; rintro e w' ⟨he, rfl⟩; simp only [gone] at he; subst he)
  exact ⟨rfl, q5 hB _, F1.of_below (q5 (Below.refl _ _) _) _ _, .inl ⟨h, rfl⟩⟩
 ·have hd : decide (n > (s.size : Int) - p) = false := decide_eq_false h
  have hw2 : wrap64 (p + n) = p + n := by unfold wrap64; omega
  have Bv : wrap64 (p + n - n) = p := by unfold wrap64; omega
  have d1 : decide (0 ≤ p) = true := decide_eq_true (by omega)
  have d2 : decide (p ≤ p + n) = true := decide_eq_true (by omega)
  have d3 : decide (p + n ≤ (s.size : Int)) = true := decide_eq_true (by omega)
  go_enter Try.func55, Try.ntmps55
  go_wp2
  go_quiet (fail)
  go_wp2
  go_quiet (fail)
  go_wp2
  go_ret
  exact ⟨q5 (i4 (q5 hB _) hI.2) _, dC ((F1.of_below (q5 (Below.refl _ _) _) _ _).set_ _ _) _, .inr ⟨by omega, rfl, W4.drewN ((W4.drewN hI _).set_1 _) _⟩⟩
end Go.Proofs.Ytdmnknhlibaaoaa.M
namespace Go.Proofs.Ytdmnknhlibaaoaa.M
open Go.RowKit Go.Proofs.YtdmnknhlibaaoaaW.PrintWords Go.Proofs.YtdmnknhlibaaoaaW.PrintLast Go.Proofs.YtdmnknhlibaaoaaW.PrintMore
set_option linter.unusedVariables false
set_option linter.unusedSimpArgs false
def V6 (s : ByteArray) (p : Int) (q : Bool) (g : Nat) (w0 w : World) (e : Ending) (w' : World) : Prop := Below w0.heap.size w0 w' ∧ F1 w w' g none ∧
 ((¬ p < s.size ∧ e = gone s.size 152) ∨ (p < s.size ∧ q = false ∧ e = gone p 160) ∨ (p < s.size ∧ q = true ∧ e = .returned (.int .i64 (bt s p)) ∧ W4 w0 w' g s (p + 1)))
set_option maxHeartbeats 8000000 in
set_option maxRecDepth 100000 in
theorem al6 (AE : Array Value) (q : Bool) (g : Nat) (s : ByteArray) (p : Int) (w0 w : World) (hI : W4 w0 w g s p) (hB : Below w0.heap.size w0 w) (hp : 0 ≤ p ∧ p ≤ s.size) (hs : s.size ≤ 100000)
 (hK : p < s.size → ∀ w1 : World, w1.heap = w.heap → Calls Try.prog 49 (#[.int .u8 (bt s p)] ++ AE) w1 fun e w' => e = .returned (.bool q) ∧ w' = w1) :
 Calls Try.prog 48 #[.pointer (some ⟨g, 0, none⟩), .func (.func 49) #[] AE] w (V6 s p q g w0 w) := by
 have c0 := pP hI.1
 have c1 := rL hI.1
 have f1 : w.frozen? ⟨g, 1, none⟩ = false := Y0 hI.1 1
 by_cases h : p < (s.size : Int)
 ·have hd : decide (p ≥ (s.size : Int)) = false := decide_eq_false (by omega)
  have hw : wrap64 (p + 1) = p + 1 := by unfold wrap64; omega
  have p1 : 0 ≤ p := hp.1
  have q1 : p < (s.size : Int) := h
  have vJ := K9 s p
  have uE := fun n => hK h (w.drewN n) rfl
  have IA := aD s p
  have EQ : wrap64 (bt s p) = bt s p := by unfold wrap64; omega
  replace p1 := eq_true p1
  replace q1 := eq_true q1
  have HI := am hI
  have I := am hB
  clear hI hB
  go_enter Try.func48, Try.ntmps48
  go_wp2
  go_quiet (fail)
  go_wp2
  go_quiet (fail)
  cases q with
  | true =>
   go_wp2_with (go_at_call 49; refine (uE _).mono ?_; rintro e w' ⟨rfl, rfl⟩)
   go_ret
   unfold V6
   exact ⟨i4 (q5 I.out _) HI.out.2, F1.set_ (dC (F1.refl _ _ _) _) _ _, .inr (.inr ⟨h, rfl, rfl, (W4.drewN HI.out _).set_1 _⟩)⟩
  | false =>
   go_wp2_with (first | (go_at_call 49; refine (uE _).mono ?_; rintro e w' ⟨rfl, rfl⟩) | (go_at_call 34; refine (oF _ _ _).mono ?_; rintro e w' ⟨he, rfl⟩; simp only [gone] at he; subst he))
   unfold V6
   exact ⟨rfl, q5 I.out _, dC (F1.refl _ _ _) _, .inr (.inl ⟨h, rfl, rfl⟩)⟩
 ·have hd : decide (p ≥ (s.size : Int)) = true := decide_eq_true (by omega)
  go_enter Try.func48, Try.ntmps48
  go_wp2
  go_quiet (fail)
  go_wp2_with (go_at_call 34; refine (oF _ _ _).mono ?_; rintro e w' ⟨he, rfl⟩; simp only [gone] at he; subst he)
  unfold V6
  exact ⟨rfl, q5 hB _, dC (F1.refl _ _ _) _, .inl ⟨by omega, rfl⟩⟩
set_option maxHeartbeats 8000000 in
set_option maxRecDepth 100000 in
theorem dZ (AE : Array Value) (q : Bool) (g : Nat) (s : ByteArray) (p : Int) (w0 w : World) (hI : W4 w0 w g s p) (hB : Below w0.heap.size w0 w) (hp : 0 ≤ p ∧ p ≤ s.size) (hs : s.size ≤ 100000)
 (hK : p < s.size → ∀ w1 : World, w1.heap = w.heap → Calls Try.prog 50 (#[.int .u8 (bt s p)] ++ AE) w1 fun e w' => e = .returned (.bool q) ∧ w' = w1) :
 Calls Try.prog 48 #[.pointer (some ⟨g, 0, none⟩), .func (.func 50) #[] AE] w (V6 s p q g w0 w) := by
 have c0 := pP hI.1
 have c1 := rL hI.1
 have f1 : w.frozen? ⟨g, 1, none⟩ = false := Y0 hI.1 1
 by_cases h : p < (s.size : Int)
 ·have hd : decide (p ≥ (s.size : Int)) = false := decide_eq_false (by omega)
  have hw : wrap64 (p + 1) = p + 1 := by unfold wrap64; omega
  have p1 : 0 ≤ p := hp.1
  have q1 : p < (s.size : Int) := h
  have vJ := K9 s p
  have uE := fun n => hK h (w.drewN n) rfl
  have IA := aD s p
  have EQ : wrap64 (bt s p) = bt s p := by unfold wrap64; omega
  replace p1 := eq_true p1
  replace q1 := eq_true q1
  have HI := am hI
  have I := am hB
  clear hI hB
  go_enter Try.func48, Try.ntmps48
  go_wp2
  go_quiet (fail)
  go_wp2
  go_quiet (fail)
  cases q with
  | true =>
   go_wp2_with (go_at_call 50; refine (uE _).mono ?_; rintro e w' ⟨rfl, rfl⟩)
   go_ret
   unfold V6
   exact ⟨i4 (q5 I.out _) HI.out.2, F1.set_ (dC (F1.refl _ _ _) _) _ _, .inr (.inr ⟨h, rfl, rfl, (W4.drewN HI.out _).set_1 _⟩)⟩
  | false =>
   go_wp2_with (first | (go_at_call 50; refine (uE _).mono ?_; rintro e w' ⟨rfl, rfl⟩) | (go_at_call 34; refine (oF _ _ _).mono ?_; rintro e w' ⟨he, rfl⟩; simp only [gone] at he; subst he))
   unfold V6
   exact ⟨rfl, q5 I.out _, dC (F1.refl _ _ _) _, .inr (.inl ⟨h, rfl, rfl⟩)⟩
 ·have hd : decide (p ≥ (s.size : Int)) = true := decide_eq_true (by omega)
  go_enter Try.func48, Try.ntmps48
  go_wp2
  go_quiet (fail)
  go_wp2_with (go_at_call 34; refine (oF _ _ _).mono ?_; rintro e w' ⟨he, rfl⟩; simp only [gone] at he; subst he)
  unfold V6
  exact ⟨rfl, q5 hB _, dC (F1.refl _ _ _) _, .inl ⟨by omega, rfl⟩⟩
set_option maxHeartbeats 8000000 in
set_option maxRecDepth 100000 in
theorem Pm (AE : Array Value) (q : Bool) (g : Nat) (s : ByteArray) (p : Int) (w0 w : World) (hI : W4 w0 w g s p) (hB : Below w0.heap.size w0 w) (hp : 0 ≤ p ∧ p ≤ s.size) (hs : s.size ≤ 100000)
 (hK : p < s.size → ∀ w1 : World, w1.heap = w.heap → Calls Try.prog 51 (#[.int .u8 (bt s p)] ++ AE) w1 fun e w' => e = .returned (.bool q) ∧ w' = w1) :
 Calls Try.prog 48 #[.pointer (some ⟨g, 0, none⟩), .func (.func 51) #[] AE] w (V6 s p q g w0 w) := by
 have c0 := pP hI.1
 have c1 := rL hI.1
 have f1 : w.frozen? ⟨g, 1, none⟩ = false := Y0 hI.1 1
 by_cases h : p < (s.size : Int)
 ·have hd : decide (p ≥ (s.size : Int)) = false := decide_eq_false (by omega)
  have hw : wrap64 (p + 1) = p + 1 := by unfold wrap64; omega
  have p1 : 0 ≤ p := hp.1
  have q1 : p < (s.size : Int) := h
  have vJ := K9 s p
  have uE := fun n => hK h (w.drewN n) rfl
  have IA := aD s p
  have EQ : wrap64 (bt s p) = bt s p := by unfold wrap64; omega
  replace p1 := eq_true p1
  replace q1 := eq_true q1
  have HI := am hI
  have I := am hB
  clear hI hB
  go_enter Try.func48, Try.ntmps48
  go_wp2
  go_quiet (fail)
  go_wp2
  go_quiet (fail)
  cases q with
  | true =>
   go_wp2_with (go_at_call 51; refine (uE _).mono ?_; rintro e w' ⟨rfl, rfl⟩)
   go_ret
   unfold V6
   exact ⟨i4 (q5 I.out _) HI.out.2, F1.set_ (dC (F1.refl _ _ _) _) _ _, .inr (.inr ⟨h, rfl, rfl, (W4.drewN HI.out _).set_1 _⟩)⟩
  | false =>
   go_wp2_with (first | (go_at_call 51; refine (uE _).mono ?_; rintro e w' ⟨rfl, rfl⟩) | (go_at_call 34; refine (oF _ _ _).mono ?_; rintro e w' ⟨he, rfl⟩; simp only [gone] at he; subst he))
   unfold V6
   exact ⟨rfl, q5 I.out _, dC (F1.refl _ _ _) _, .inr (.inl ⟨h, rfl, rfl⟩)⟩
 ·have hd : decide (p ≥ (s.size : Int)) = true := decide_eq_true (by omega)
  go_enter Try.func48, Try.ntmps48
  go_wp2
  go_quiet (fail)
  go_wp2_with (go_at_call 34; refine (oF _ _ _).mono ?_; rintro e w' ⟨he, rfl⟩; simp only [gone] at he; subst he)
  unfold V6
  exact ⟨rfl, q5 hB _, dC (F1.refl _ _ _) _, .inl ⟨by omega, rfl⟩⟩
set_option maxHeartbeats 8000000 in
set_option maxRecDepth 100000 in
theorem as0 (AE : Array Value) (q : Bool) (g : Nat) (s : ByteArray) (p : Int) (w0 w : World) (hI : W4 w0 w g s p) (hB : Below w0.heap.size w0 w) (hp : 0 ≤ p ∧ p ≤ s.size) (hs : s.size ≤ 100000)
 (hK : p < s.size → ∀ w1 : World, w1.heap = w.heap → Calls Try.prog 52 (#[.int .u8 (bt s p)] ++ AE) w1 fun e w' => e = .returned (.bool q) ∧ w' = w1) :
 Calls Try.prog 48 #[.pointer (some ⟨g, 0, none⟩), .func (.func 52) #[] AE] w (V6 s p q g w0 w) := by
 have c0 := pP hI.1
 have c1 := rL hI.1
 have f1 : w.frozen? ⟨g, 1, none⟩ = false := Y0 hI.1 1
 by_cases h : p < (s.size : Int)
 ·have hd : decide (p ≥ (s.size : Int)) = false := decide_eq_false (by omega)
  have hw : wrap64 (p + 1) = p + 1 := by unfold wrap64; omega
  have p1 : 0 ≤ p := hp.1
  have q1 : p < (s.size : Int) := h
  have vJ := K9 s p
  have uE := fun n => hK h (w.drewN n) rfl
  have IA := aD s p
  have EQ : wrap64 (bt s p) = bt s p := by unfold wrap64; omega
  replace p1 := eq_true p1
  replace q1 := eq_true q1
  have HI := am hI
  have I := am hB
  clear hI hB
  go_enter Try.func48, Try.ntmps48
  go_wp2
  go_quiet (fail)
  go_wp2
  go_quiet (fail)
  cases q with
  | true =>
   go_wp2_with (go_at_call 52; refine (uE _).mono ?_; rintro e w' ⟨rfl, rfl⟩)
   go_ret
   unfold V6
   exact ⟨i4 (q5 I.out _) HI.out.2, F1.set_ (dC (F1.refl _ _ _) _) _ _, .inr (.inr ⟨h, rfl, rfl, (W4.drewN HI.out _).set_1 _⟩)⟩
  | false =>
   go_wp2_with (first | (go_at_call 52; refine (uE _).mono ?_; rintro e w' ⟨rfl, rfl⟩) | (go_at_call 34; refine (oF _ _ _).mono ?_; rintro e w' ⟨he, rfl⟩; simp only [gone] at he; subst he))
   unfold V6
   exact ⟨rfl, q5 I.out _, dC (F1.refl _ _ _) _, .inr (.inl ⟨h, rfl, rfl⟩)⟩
 ·have hd : decide (p ≥ (s.size : Int)) = true := decide_eq_true (by omega)
  go_enter Try.func48, Try.ntmps48
  go_wp2
  go_quiet (fail)
  go_wp2_with (go_at_call 34; refine (oF _ _ _).mono ?_; rintro e w' ⟨he, rfl⟩; simp only [gone] at he; subst he)
  unfold V6
  exact ⟨rfl, q5 hB _, dC (F1.refl _ _ _) _, .inl ⟨by omega, rfl⟩⟩
set_option maxHeartbeats 8000000 in
set_option maxRecDepth 100000 in
theorem ap2 (AE : Array Value) (q : Bool) (g : Nat) (s : ByteArray) (p : Int) (w0 w : World) (hI : W4 w0 w g s p) (hB : Below w0.heap.size w0 w) (hp : 0 ≤ p ∧ p ≤ s.size) (hs : s.size ≤ 100000)
 (hK : p < s.size → ∀ w1 : World, w1.heap = w.heap → Calls Try.prog 53 (#[.int .u8 (bt s p)] ++ AE) w1 fun e w' => e = .returned (.bool q) ∧ w' = w1) :
 Calls Try.prog 48 #[.pointer (some ⟨g, 0, none⟩), .func (.func 53) #[] AE] w (V6 s p q g w0 w) := by
 have c0 := pP hI.1
 have c1 := rL hI.1
 have f1 : w.frozen? ⟨g, 1, none⟩ = false := Y0 hI.1 1
 by_cases h : p < (s.size : Int)
 ·have hd : decide (p ≥ (s.size : Int)) = false := decide_eq_false (by omega)
  have hw : wrap64 (p + 1) = p + 1 := by unfold wrap64; omega
  have p1 : 0 ≤ p := hp.1
  have q1 : p < (s.size : Int) := h
  have vJ := K9 s p
  have uE := fun n => hK h (w.drewN n) rfl
  have IA := aD s p
  have EQ : wrap64 (bt s p) = bt s p := by unfold wrap64; omega
  replace p1 := eq_true p1
  replace q1 := eq_true q1
  have HI := am hI
  have I := am hB
  clear hI hB
  go_enter Try.func48, Try.ntmps48
  go_wp2
  go_quiet (fail)
  go_wp2
  go_quiet (fail)
  cases q with
  | true =>
   go_wp2_with (go_at_call 53; refine (uE _).mono ?_; rintro e w' ⟨rfl, rfl⟩)
   go_ret
   unfold V6
   exact ⟨i4 (q5 I.out _) HI.out.2, F1.set_ (dC (F1.refl _ _ _) _) _ _, .inr (.inr ⟨h, rfl, rfl, (W4.drewN HI.out _).set_1 _⟩)⟩
  | false =>
   go_wp2_with (first | (go_at_call 53; refine (uE _).mono ?_; rintro e w' ⟨rfl, rfl⟩) | (go_at_call 34; refine (oF _ _ _).mono ?_; rintro e w' ⟨he, rfl⟩; simp only [gone] at he; subst he))
   unfold V6
   exact ⟨rfl, q5 I.out _, dC (F1.refl _ _ _) _, .inr (.inl ⟨h, rfl, rfl⟩)⟩
 ·have hd : decide (p ≥ (s.size : Int)) = true := decide_eq_true (by omega)
  go_enter Try.func48, Try.ntmps48
  go_wp2
  go_quiet (fail)
  go_wp2_with (go_at_call 34; refine (oF _ _ _).mono ?_; rintro e w' ⟨he, rfl⟩; simp only [gone] at he; subst he)
  unfold V6
  exact ⟨rfl, q5 hB _, dC (F1.refl _ _ _) _, .inl ⟨by omega, rfl⟩⟩
set_option maxHeartbeats 8000000 in
set_option maxRecDepth 100000 in
theorem eI (AE : Array Value) (q : Bool) (g : Nat) (s : ByteArray) (p : Int) (w0 w : World) (hI : W4 w0 w g s p) (hB : Below w0.heap.size w0 w) (hp : 0 ≤ p ∧ p ≤ s.size) (hs : s.size ≤ 100000)
 (hK : p < s.size → ∀ w1 : World, w1.heap = w.heap → Calls Try.prog 54 (#[.int .u8 (bt s p)] ++ AE) w1 fun e w' => e = .returned (.bool q) ∧ w' = w1) :
 Calls Try.prog 48 #[.pointer (some ⟨g, 0, none⟩), .func (.func 54) #[] AE] w (V6 s p q g w0 w) := by
 have c0 := pP hI.1
 have c1 := rL hI.1
 have f1 : w.frozen? ⟨g, 1, none⟩ = false := Y0 hI.1 1
 by_cases h : p < (s.size : Int)
 ·have hd : decide (p ≥ (s.size : Int)) = false := decide_eq_false (by omega)
  have hw : wrap64 (p + 1) = p + 1 := by unfold wrap64; omega
  have p1 : 0 ≤ p := hp.1
  have q1 : p < (s.size : Int) := h
  have vJ := K9 s p
  have uE := fun n => hK h (w.drewN n) rfl
  have IA := aD s p
  have EQ : wrap64 (bt s p) = bt s p := by unfold wrap64; omega
  replace p1 := eq_true p1
  replace q1 := eq_true q1
  have HI := am hI
  have I := am hB
  clear hI hB
  go_enter Try.func48, Try.ntmps48
  go_wp2
  go_quiet (fail)
  go_wp2
  go_quiet (fail)
  cases q with
  | true =>
   go_wp2_with (go_at_call 54; refine (uE _).mono ?_; rintro e w' ⟨rfl, rfl⟩)
   go_ret
   unfold V6
   exact ⟨i4 (q5 I.out _) HI.out.2, F1.set_ (dC (F1.refl _ _ _) _) _ _, .inr (.inr ⟨h, rfl, rfl, (W4.drewN HI.out _).set_1 _⟩)⟩
  | false =>
   go_wp2_with (first | (go_at_call 54; refine (uE _).mono ?_; rintro e w' ⟨rfl, rfl⟩) | (go_at_call 34; refine (oF _ _ _).mono ?_; rintro e w' ⟨he, rfl⟩; simp only [gone] at he; subst he))
   unfold V6
   exact ⟨rfl, q5 I.out _, dC (F1.refl _ _ _) _, .inr (.inl ⟨h, rfl, rfl⟩)⟩
 ·have hd : decide (p ≥ (s.size : Int)) = true := decide_eq_true (by omega)
  go_enter Try.func48, Try.ntmps48
  go_wp2
  go_quiet (fail)
  go_wp2_with (go_at_call 34; refine (oF _ _ _).mono ?_; rintro e w' ⟨he, rfl⟩; simp only [gone] at he; subst he)
  unfold V6
  exact ⟨rfl, q5 hB _, dC (F1.refl _ _ _) _, .inl ⟨by omega, rfl⟩⟩
end Go.Proofs.Ytdmnknhlibaaoaa.M
