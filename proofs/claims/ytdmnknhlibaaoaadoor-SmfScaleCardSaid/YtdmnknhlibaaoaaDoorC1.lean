/- Functions and contracts printed by a program of this session (wip/tools), and texts by hand: Print, Parse, and the plain answers (part 1). -/
import Derived.Test.YtdmnknhlibaaoaaDoorProg
import Derived.Below
import Derived.Deep.Draws
import Derived.Deep.AppendLies
import Derived.Maps.AppendAt
import Derived.OwnWalk
import Derived.Laws.BytesArg
import Derived.Laws.MakeOwn
import Derived.Laws.OwnMore
import Derived.Deep.OwnRows
import Derived.Tactics
import Derived.Lib.ConvBytes
import Derived.Laws.Slices
import Derived.WalkKit
import Derived.KernelRfl
import Derived.RowKit3
import Derived.Deep.LoopGhost
import Derived.Deep.QuietTactic
import Derived.BigQuiet
import Derived.WideLaws
import Derived.Deep.DeepCutAuto
import Derived.Deep.CutBlock
import Derived.Deep.RegionHeld3
import Derived.Laws.Rows
import Derived.Lib.AppendStr
import Derived.ArgAppend
import Derived.Laws.IdiomCopy
import Derived.OrdersHeld
import Derived.Laws.BitsLemmas
import Derived.RowKit
import Derived.Tactics2
import Derived.WalkSpells
import Derived.StillTactics
import Derived.OneCell
import Derived.Outline
import Derived.Deep.RegionLaw
import Derived.IntWalk
import Derived.Lib.Hide
import Derived.Test.YtdmnknhlibaaoaaDoorCW
import Derived.Test.YtdmnknhlibaaoaaDoorC0
namespace Go.Proofs.YtdmnknhlibaaoaaDoor.M
open Go.RowKit Go.Proofs.YtdmnknhlibaaoaaDoorW.PrintWords Go.Proofs.YtdmnknhlibaaoaaDoorW.PrintLast Go.Proofs.YtdmnknhlibaaoaaDoorW.PrintMore
attribute [local go_sem] max2_int min2_int max_two min_two max_three min_three max_four min_four
set_option linter.unusedVariables false
set_option linter.unusedSimpArgs false
def errW : Option Int → Value
  | none => .nilIface
  | some c => .iface 0 (.int .i64 c)
theorem errW_none : errW none = .nilIface := rfl
theorem errW_some (c : Int) : errW (some c) = .iface 0 (.int .i64 c) := rfl
theorem info5 : (Tryd.prog.info? 5).map (fun i => (i.zero, i.size, i.bytes)) = some (some (.int .u8 0), 1, 1) := by kernel_rfl
theorem info33 : (Tryd.prog.info? 33).map (fun i => (i.zero, i.size, i.bytes)) = some (some (.slice none 0 0), 1, 24) := by kernel_rfl
theorem info37 : (Tryd.prog.info? 37).map (fun i => (i.zero, i.size, i.bytes)) = some (some (.agg #[(.int .i64 0), (.int .i64 0), (.int .i64 0)]), 3, 24) := by kernel_rfl
theorem info39 : (Tryd.prog.info? 39).map (fun i => (i.zero, i.size, i.bytes)) = some (some (.agg #[(.int .i64 0), (.int .i64 0), (.int .i64 0), (.int .i64 0), (.int .i64 0), (.string ⟨#[]⟩)]), 6, 56) := by kernel_rfl
structure S39 where
  f0 : Int
  f1 : Int
  f2 : Int
  f3 : Int
  f4 : Int
  f5 : ByteArray
def z39 : S39 := ⟨(0 : Int), (0 : Int), (0 : Int), (0 : Int), (0 : Int), (⟨#[]⟩ : ByteArray)⟩
def k39 : Kd S39 := Kd.iso (Kd.pair (Kd.int .i64) (Kd.pair (Kd.int .i64) (Kd.pair (Kd.int .i64) (Kd.pair (Kd.int .i64) (Kd.pair (Kd.int .i64) Kd.string))))) (fun x : S39 => (x.f0, x.f1, x.f2, x.f3, x.f4, x.f5))
theorem k39_open {w : World} {x : S39} {cs : List Value} (h : k39.K w x cs) : cs = [.int .i64 x.f0, .int .i64 x.f1, .int .i64 x.f2, .int .i64 x.f3, .int .i64 x.f4, .string x.f5] := by
  obtain ⟨_, _, rfl, rfl, ⟨_, _, rfl, rfl, ⟨_, _, rfl, rfl, ⟨_, _, rfl, rfl, ⟨_, _, rfl, rfl, rfl⟩⟩⟩⟩⟩ := h
  exact rfl
theorem k39_mkM (w : World) (base : Nat) (ok : Nat → Prop) (x : S39)  : k39.M w base ok x [.int .i64 x.f0, .int .i64 x.f1, .int .i64 x.f2, .int .i64 x.f3, .int .i64 x.f4, .string x.f5] := ⟨[.int .i64 x.f0], [.int .i64 x.f1, .int .i64 x.f2, .int .i64 x.f3, .int .i64 x.f4, .string x.f5], rfl, rfl, ⟨[.int .i64 x.f1], [.int .i64 x.f2, .int .i64 x.f3, .int .i64 x.f4, .string x.f5], rfl, rfl, ⟨[.int .i64 x.f2], [.int .i64 x.f3, .int .i64 x.f4, .string x.f5], rfl, rfl, ⟨[.int .i64 x.f3], [.int .i64 x.f4, .string x.f5], rfl, rfl, ⟨[.int .i64 x.f4], [.string x.f5], rfl, rfl, rfl⟩⟩⟩⟩⟩
def rd_T39 (xs : List S39) (i : Int) : S39 := xs.getD i.toNat z39
theorem at_T39 {w : World} {A : Option Addr} {n : Nat} {xs : List S39} (h : Kd.C k39 w A n xs) (i : Int) (h0 : 0 ≤ i) (h1 : i < n) : ∃ ad , A = some ad ∧ w.cell? (ad.add (i.toNat * 6)) = some (.int .i64 (rd_T39 xs i).f0) ∧ w.cell? ⟨(ad.add (i.toNat * 6)).block, (ad.add (i.toNat * 6)).off + 1, none⟩ = some (.int .i64 (rd_T39 xs i).f1) ∧ w.cell? ⟨(ad.add (i.toNat * 6)).block, (ad.add (i.toNat * 6)).off + 2, none⟩ = some (.int .i64 (rd_T39 xs i).f2) ∧ w.cell? ⟨(ad.add (i.toNat * 6)).block, (ad.add (i.toNat * 6)).off + 3, none⟩ = some (.int .i64 (rd_T39 xs i).f3) ∧ w.cell? ⟨(ad.add (i.toNat * 6)).block, (ad.add (i.toNat * 6)).off + 4, none⟩ = some (.int .i64 (rd_T39 xs i).f4) ∧ w.cell? ⟨(ad.add (i.toNat * 6)).block, (ad.add (i.toNat * 6)).off + 5, none⟩ = some (.string (rd_T39 xs i).f5) := by
  obtain ⟨ad, c, e, _, hK, hc0⟩ := Kd.C_get h z39 i h0 h1
  have hc : ∀ j u, c[j]? = some u → w.cell? (ad.add (i.toNat * 6 + j)) = some u := hc0
  obtain rfl := k39_open hK
  exact ⟨ad, e, hc 0 _ rfl, by rw [← add_field _ _ 1 (by omega)]; exact hc 1 _ rfl, by rw [← add_field _ _ 2 (by omega)]; exact hc 2 _ rfl, by rw [← add_field _ _ 3 (by omega)]; exact hc 3 _ rfl, by rw [← add_field _ _ 4 (by omega)]; exact hc 4 _ rfl, by rw [← add_field _ _ 5 (by omega)]; exact hc 5 _ rfl⟩
def rd_L4 (xs : List (List S39)) (i : Int) : (List S39) := xs.getD i.toNat ([] : List S39)
theorem at_L4 {w : World} {A : Option Addr} {n : Nat} {xs : List (List S39)} (h : Kd.C (Kd.slice 39 k39) w A n xs) (i : Int) (h0 : 0 ≤ i) (h1 : i < n) : ∃ ad A0 c0, A = some ad ∧ w.cell? (ad.add i.toNat) = some (.slice A0 (rd_L4 xs i).length c0) ∧ (rd_L4 xs i).length ≤ c0 ∧ k39.C w A0 (rd_L4 xs i).length (rd_L4 xs i) := by
  obtain ⟨ad, c, e, _, hK, hc0⟩ := Kd.C_get h ([] : List S39) i h0 h1
  have hc : ∀ j u, c[j]? = some u → w.cell? (ad.add (i.toNat * 1 + j)) = some u := hc0
  obtain ⟨A0, c0, rfl, l0, g0⟩ := hK
  exact ⟨ad, A0, c0, e, by have hq := hc 0 _ rfl; rwa [Nat.mul_one, Nat.add_zero] at hq, l0, g0⟩
structure S37 where
  f0 : Int
  f1 : Int
  f2 : Int
def z37 : S37 := ⟨(0 : Int), (0 : Int), (0 : Int)⟩
def k37 : Kd S37 := Kd.iso (Kd.pair (Kd.int .i64) (Kd.pair (Kd.int .i64) (Kd.int .i64))) (fun x : S37 => (x.f0, x.f1, x.f2))
theorem k37_open {w : World} {x : S37} {cs : List Value} (h : k37.K w x cs) : cs = [.int .i64 x.f0, .int .i64 x.f1, .int .i64 x.f2] := by
  obtain ⟨_, _, rfl, rfl, ⟨_, _, rfl, rfl, rfl⟩⟩ := h
  exact rfl
theorem k37_openM {w : World} {base : Nat} {ok : Nat → Prop} {x : S37} {cs : List Value} (h : k37.M w base ok x cs) : cs = [.int .i64 x.f0, .int .i64 x.f1, .int .i64 x.f2] := by
  obtain ⟨_, _, rfl, rfl, ⟨_, _, rfl, rfl, rfl⟩⟩ := h
  exact rfl
theorem k37_mkM (w : World) (base : Nat) (ok : Nat → Prop) (x : S37)  : k37.M w base ok x [.int .i64 x.f0, .int .i64 x.f1, .int .i64 x.f2] := ⟨[.int .i64 x.f0], [.int .i64 x.f1, .int .i64 x.f2], rfl, rfl, ⟨[.int .i64 x.f1], [.int .i64 x.f2], rfl, rfl, rfl⟩⟩
def rd_T37 (xs : List S37) (i : Int) : S37 := xs.getD i.toNat z37
theorem at_T37 {w : World} {A : Option Addr} {n : Nat} {xs : List S37} (h : Kd.C k37 w A n xs) (i : Int) (h0 : 0 ≤ i) (h1 : i < n) : ∃ ad , A = some ad ∧ w.cell? (ad.add (i.toNat * 3)) = some (.int .i64 (rd_T37 xs i).f0) ∧ w.cell? ⟨(ad.add (i.toNat * 3)).block, (ad.add (i.toNat * 3)).off + 1, none⟩ = some (.int .i64 (rd_T37 xs i).f1) ∧ w.cell? ⟨(ad.add (i.toNat * 3)).block, (ad.add (i.toNat * 3)).off + 2, none⟩ = some (.int .i64 (rd_T37 xs i).f2) := by
  obtain ⟨ad, c, e, _, hK, hc0⟩ := Kd.C_get h z37 i h0 h1
  have hc : ∀ j u, c[j]? = some u → w.cell? (ad.add (i.toNat * 3 + j)) = some u := hc0
  obtain rfl := k37_open hK
  exact ⟨ad, e, hc 0 _ rfl, by rw [← add_field _ _ 1 (by omega)]; exact hc 1 _ rfl, by rw [← add_field _ _ 2 (by omega)]; exact hc 2 _ rfl⟩
theorem goesV_ {P : Program} {ops : Array Oper} {Q : Exit → Act → World → Prop} {rest : List Oper} {oi : Oper} {a : Act} {w : World} (N : Option Tmp) (hd : oi.dst = N) (hg : oi.guard = none) {f : FuncId} {fn : Func} {t : Tmp} {xs_ : Array Operand} {ts : Array TypeId} (hf : P.funcs[f]? = some fn) (hname : (fn.name == "runtime.NumGoroutine") = false) (hb : fn.body.isSome = true) (args : Array Value)
    (hop : oi.op = .call { callee := .value (.tmp t), args := xs_, argTypes := ts }) (hargs : xs_.map a.eval = args)
    (h : Calls P f args w fun e w' => ∃ v, e = .returned v ∧ wpList P ops Q rest (a.put N v) w') (hfun : a.eval (.tmp t) = .func (.func f) #[] #[] := by rfl) : wpList P ops Q (oi :: rest) a w := by
  refine wpList_plain hg fun K hK => ?_
  have he := enters_ hf hname hb args w
  have hrun : (execOp a.eval oi).run P w = .ok (.enter f args) w := by
    unfold execOp
    simp [hop, hfun, resolve, Deferred.ofValue, invoke, hargs, he]
  unfold Oper.wp
  rw [hrun, Oper.upon_enter]
  refine h.mono fun e w'' hh => ?_
  obtain ⟨v, rfl, hk⟩ := hh
  subst hd
  exact hK _ _ hk
end Go.Proofs.YtdmnknhlibaaoaaDoor.M
namespace Go.Proofs.YtdmnknhlibaaoaaDoor.M
open Go.RowKit Go.Proofs.YtdmnknhlibaaoaaDoorW.PrintWords Go.Proofs.YtdmnknhlibaaoaaDoorW.PrintLast Go.Proofs.YtdmnknhlibaaoaaDoorW.PrintMore
class StH (w : outParam World) (w' : World) : Prop where
  keep : ∀ (k : Nat), k < w.heap.size → w'.heap[k]? = w.heap[k]?
  below : ∀ (w0 : World), Below w0.heap.size w0 w → Below w0.heap.size w0 w'
instance (priority := low) StH.refl (w : World) : StH w w := ⟨fun _ _ => rfl, fun _ h => h⟩
theorem StH.size {w w' : World} (h : StH w w') : w.heap.size ≤ w'.heap.size := by
  have h1 := h.below w (Below.refl _ _)
  exact h1.size
instance StH.alloc (w w' : World) (o : Obj) [h : StH w w'] : StH w (w'.alloc o) := ⟨fun k hk => by
  have h1 := h.keep k hk
  have h2 := h.size
  rw [← h1]
  exact Below.heap_alloc _ _ _ (by omega), fun w0 hb => below_alloc (h.below w0 hb) _⟩
instance StH.drew (w w' : World) [h : StH w w'] : StH w w'.drew := ⟨fun k hk => h.keep k hk, fun w0 hb => below_drew1 (h.below w0 hb)⟩
instance StH.drewN (w w' : World) (n : Nat) [h : StH w w'] : StH w (w'.drewN n) := ⟨fun k hk => by
  have hlt : k < w.heap.size := hk
  have h1 := h.keep k hk
  have h2 : w.heap[k]? = some w.heap[k] := Array.getElem?_eq_getElem hlt
  rw [h2] at h1 ⊢
  exact blk_drewN h1 n, fun w0 hb => by apply pw_below_drewN; exact h.below w0 hb⟩
theorem bq {w w' : World} {g : Nat} {o : Obj} (h : w.heap[g]? = some o) [st : StH w w'] : w'.heap[g]? = some o := (st.keep g (Array.getElem?_eq_some_iff.1 h).1).trans h
theorem qB {w w0 w' : World} (h : Below w0.heap.size w0 w) [st : StH w w'] : Below w0.heap.size w0 w' := st.below w0 h
section
variable {α : Type} {d : Kd α} {e : Nat} {w w' : World} {base : Nat} {ok : Nat → Prop} {v : Value} {xs : List α}
theorem qR (h : d.R e w base ok v xs) [st : StH w w'] : d.R e w' base ok v xs := Kd.R_step h (fun k _ hk => st.keep k hk)
theorem qN (h : d.N e w base ok v xs) [st : StH w w'] : d.N e w' base ok v xs := Kd.N_step h (fun k _ hk => st.keep k hk)
theorem qV (h : d.V e w base ok v xs) [st : StH w w'] : d.V e w' base ok v xs := Kd.V_step h (fun k _ hk => st.keep k hk)
end
class InL (b : Nat) (L : List Nat) : Prop where
  mem : b ∈ L
instance InL.head (b : Nat) (L : List Nat) : InL b (b :: L) := ⟨List.mem_cons_self⟩
instance (priority := low) InL.tail (a b : Nat) (L : List Nat) [h : InL b L] : InL b (a :: L) := ⟨List.mem_cons_of_mem _ h.mem⟩
class StS (L : List Nat) (w : outParam World) (w' : World) : Prop where
  below : ∀ (w0 : World), (∀ b, b ∈ L → w0.heap.size ≤ b) → Below w0.heap.size w0 w → Below w0.heap.size w0 w'
instance (priority := low) StS.refl (L : List Nat) (w : World) : StS L w w := ⟨fun _ _ h => h⟩
instance StS.alloc (L : List Nat) (w w' : World) (o : Obj) [h : StS L w w'] : StS L w (w'.alloc o) := ⟨fun w0 hl hb => below_alloc (h.below w0 hl hb) _⟩
instance StS.drew (L : List Nat) (w w' : World) [h : StS L w w'] : StS L w w'.drew := ⟨fun w0 hl hb => below_drew1 (h.below w0 hl hb)⟩
instance StS.drewN (L : List Nat) (w w' : World) (n : Nat) [h : StS L w w'] : StS L w (w'.drewN n) := ⟨fun w0 hl hb => by apply pw_below_drewN; exact h.below w0 hl hb⟩
instance StS.set (L : List Nat) (w w' : World) (b j : Nat) (v : Value) [h : StS L w w'] [hi : InL b L] : StS L w (w'.setCell ⟨b, j, none⟩ v) := ⟨fun w0 hl hb => below_set (h.below w0 hl hb) (hl b hi.mem)⟩
section
variable {w w0 w' : World} {a b c d e f i j k : Nat}
theorem qS1 (ga : Aside0 (w0.heap.size ≤ a)) (h : Below w0.heap.size w0 w) [st : StS [a] w w'] : Below w0.heap.size w0 w' := st.below w0 (by intro x hx; simp only [List.mem_cons, List.not_mem_nil, or_false] at hx; subst hx; exact ga.out) h
theorem qS2 (ga : Aside0 (w0.heap.size ≤ a)) (gb : Aside0 (w0.heap.size ≤ b)) (h : Below w0.heap.size w0 w) [st : StS [a, b] w w'] : Below w0.heap.size w0 w' := st.below w0 (by intro x hx; simp only [List.mem_cons, List.not_mem_nil, or_false] at hx; rcases hx with rfl | rfl; all_goals first | exact ga.out | exact gb.out) h
theorem qS3 (ga : Aside0 (w0.heap.size ≤ a)) (gb : Aside0 (w0.heap.size ≤ b)) (gc : Aside0 (w0.heap.size ≤ c)) (h : Below w0.heap.size w0 w) [st : StS [a, b, c] w w'] : Below w0.heap.size w0 w' := st.below w0 (by intro x hx; simp only [List.mem_cons, List.not_mem_nil, or_false] at hx; rcases hx with rfl | rfl | rfl; all_goals first | exact ga.out | exact gb.out | exact gc.out) h
theorem qS4 (ga : Aside0 (w0.heap.size ≤ a)) (gb : Aside0 (w0.heap.size ≤ b)) (gc : Aside0 (w0.heap.size ≤ c)) (gd : Aside0 (w0.heap.size ≤ d)) (h : Below w0.heap.size w0 w) [st : StS [a, b, c, d] w w'] : Below w0.heap.size w0 w' := st.below w0 (by intro x hx; simp only [List.mem_cons, List.not_mem_nil, or_false] at hx; rcases hx with rfl | rfl | rfl | rfl; all_goals first | exact ga.out | exact gb.out | exact gc.out | exact gd.out) h
end
section
variable {w : World} {g : Nat} {t : TypeId} {a b c d e f : Value}
theorem blk2 (h : w.heap[g]? = some (.cells #[a, b] t (0, 0))) : w.cell? ⟨g, 0, none⟩ = some a ∧ w.cell? ⟨g, 1, none⟩ = some b ∧ w.frozen? ⟨g, 0, none⟩ = false ∧ w.frozen? ⟨g, 1, none⟩ = false :=
  ⟨(blk_cell h 0).trans rfl, (blk_cell h 1).trans rfl, blk_frozen h 0, blk_frozen h 1⟩
theorem blk3 (h : w.heap[g]? = some (.cells #[a, b, c] t (0, 0))) : w.cell? ⟨g, 0, none⟩ = some a ∧ w.cell? ⟨g, 1, none⟩ = some b ∧ w.cell? ⟨g, 2, none⟩ = some c ∧ w.frozen? ⟨g, 0, none⟩ = false ∧ w.frozen? ⟨g, 1, none⟩ = false ∧ w.frozen? ⟨g, 2, none⟩ = false :=
  ⟨(blk_cell h 0).trans rfl, (blk_cell h 1).trans rfl, (blk_cell h 2).trans rfl, blk_frozen h 0, blk_frozen h 1, blk_frozen h 2⟩
theorem blk6 (h : w.heap[g]? = some (.cells #[a, b, c, d, e, f] t (0, 0))) : w.cell? ⟨g, 0, none⟩ = some a ∧ w.cell? ⟨g, 1, none⟩ = some b ∧ w.cell? ⟨g, 2, none⟩ = some c ∧ w.cell? ⟨g, 3, none⟩ = some d ∧ w.cell? ⟨g, 4, none⟩ = some e ∧ w.cell? ⟨g, 5, none⟩ = some f ∧
    w.frozen? ⟨g, 0, none⟩ = false ∧ w.frozen? ⟨g, 1, none⟩ = false ∧ w.frozen? ⟨g, 2, none⟩ = false ∧ w.frozen? ⟨g, 3, none⟩ = false ∧ w.frozen? ⟨g, 4, none⟩ = false ∧ w.frozen? ⟨g, 5, none⟩ = false :=
  ⟨(blk_cell h 0).trans rfl, (blk_cell h 1).trans rfl, (blk_cell h 2).trans rfl, (blk_cell h 3).trans rfl, (blk_cell h 4).trans rfl, (blk_cell h 5).trans rfl, blk_frozen h 0, blk_frozen h 1, blk_frozen h 2, blk_frozen h 3, blk_frozen h 4, blk_frozen h 5⟩
end
def bs (k n : Nat) : Array Bool := ((List.range n).map fun i => Nat.testBit k i).toArray
section
variable {P : Program} {ops : Array Oper} {Q : Exit → Act → World → Prop} {md : Region.Mode} {S : World → Prop} {ds : List Nat}
theorem pureS (i : Nat) (N : Option Tmp) (l' : Array Bool) {oi : Oper} {v : Value} {fuel : Nat} {l : Array Bool} {a a' : Act} {w : World}
    (h : wpAnyLast P md ops Q S ds fuel l' a' w) (hi : ops[i]? = some oi := by exact rfl) (hN : oi.dst = N := by exact rfl) (hc : anyB md ops l l' i = true := by exact any_of HT_.out (by kernel_rfl))
    (hQ : ∀ c a w, Q (.panic c) (a.put oi.dst v) w → Q (.panic c) a w := by exact fun _ _ _ h => h)
    (hy : Yields P ops oi v a := by refine Or.inl ⟨by rfl, ?_⟩; intro w'; go_simp; with_reducible rfl)
    (ha : a.put N v = a' := by simp only [Act.put, List.setIfInBounds_toArray, List.set_cons_zero, List.set_cons_succ, i64_w, i32_w]; rfl) : wpAnyLast P md ops Q S ds (fuel + 1) l a w :=
  pure_ l' hi hN hc hQ hy ha h
theorem normS (N : Option Tmp) {fuel : Nat} {l : Array Bool} {a a' : Act} {v : Value} {w : World} (h : wpAnyLast P md ops Q S ds fuel l a' w)
    (ha : a.put N v = a' := by simp only [Act.put, List.setIfInBounds_toArray, List.set_cons_zero, List.set_cons_succ, i64_w, i32_w]; rfl) : wpAnyLast P md ops Q S ds fuel l (a.put N v) w := norm_ ha h
end
end Go.Proofs.YtdmnknhlibaaoaaDoor.M
namespace Go.Proofs.YtdmnknhlibaaoaaDoor.M
open Go.RowKit Go.Proofs.YtdmnknhlibaaoaaDoorW.PrintWords Go.Proofs.YtdmnknhlibaaoaaDoorW.PrintLast Go.Proofs.YtdmnknhlibaaoaaDoorW.PrintMore
attribute [local go_sem] max2_int min2_int max_two min_two max_three min_three max_four min_four
set_option linter.unusedVariables false
set_option linter.unusedSimpArgs false
def partitalaw16_End.f (a0 : Int) : Option (Int × Int × Int × Int × Int × ByteArray) := some (a0, 16, 0, 47, 0, (⟨#[]⟩ : ByteArray))
set_option maxHeartbeats 8000000 in
set_option maxRecDepth 100000 in
theorem partitalaw16_End.calls (a0 : Int) (r1 : Int) (r2 : Int) (r3 : Int) (r4 : Int) (r5 : Int) (r6 : ByteArray) (w : World) (h : partitalaw16_End.f a0 = some (r1, r2, r3, r4, r5, r6)) :
    Calls Tryd.prog 8 #[.int .i64 a0] w fun e w' => e = .returned (.agg #[.int .i64 r1, .int .i64 r2, .int .i64 r3, .int .i64 r4, .int .i64 r5, .string r6]) ∧ Below w.heap.size w w' := by
  have hu39 := Tryd.underlying39
  have HB := Aside0.mk (Below.refl w.heap.size w)
  have H := h
  unfold partitalaw16_End.f at H
  clear h
  simp only [Option.some.injEq, Prod.mk.injEq] at H
  obtain ⟨rfl, rfl, rfl, rfl, rfl, rfl⟩ := H
  go_enter Tryd.func8, Tryd.ntmps8
  go_wp2_with (first | ((with_reducible refine gate_dst (N := 2) rfl ?_); refine box_event ?hg (N := 2) ?hd (cs := #[.int .i64 0, .int .i64 0, .int .i64 0, .int .i64 0, .int .i64 0, .string (⟨#[]⟩ : ByteArray)]) (t := 39) ?hr ?_; (case hd => rfl); (case hg => rfl); (case hr => exact qq8); intro gb101 hg w2 hbox hb; have BK101 := Aside0.mk (hbox); have GW101 := Aside0.mk ((qq7 : w.heap.size ≤ gb101)); have GE101 := Aside0.mk ((qq7 : w.heap.size ≤ gb101)); replace HB := Aside0.mk (below_step (qB HB.out) hb); clear hb hbox hg; obtain ⟨hcz3_0, hcz3_1, hcz3_2, hcz3_3, hcz3_4, hcz3_5, hfz3_0, hfz3_1, hfz3_2, hfz3_3, hfz3_4, hfz3_5⟩ := blk6 BK101.out))
  refine bodyPost_ret (results_cell_row rfl _ _ gb101 39 #[.int .i64 a0, .int .i64 16, .int .i64 0, .int .i64 47, .int .i64 0, .string (⟨#[]⟩ : ByteArray)] (0, 0) _ rfl (by refine bq ?_; refine blk_put (cs := #[.int .i64 a0, .int .i64 16, .int .i64 0, .int .i64 47, .int .i64 0, .string (⟨#[]⟩ : ByteArray)]) ?_ 5 _ rfl; refine bq ?_; refine blk_put (cs := #[.int .i64 a0, .int .i64 16, .int .i64 0, .int .i64 47, .int .i64 0, .string (⟨#[]⟩ : ByteArray)]) ?_ 4 _ rfl; refine bq ?_; refine blk_put (cs := #[.int .i64 a0, .int .i64 16, .int .i64 0, .int .i64 0, .int .i64 0, .string (⟨#[]⟩ : ByteArray)]) ?_ 3 _ rfl; refine bq ?_; refine blk_put (cs := #[.int .i64 a0, .int .i64 16, .int .i64 0, .int .i64 0, .int .i64 0, .string (⟨#[]⟩ : ByteArray)]) ?_ 2 _ rfl; refine bq ?_; refine blk_put (cs := #[.int .i64 a0, .int .i64 0, .int .i64 0, .int .i64 0, .int .i64 0, .string (⟨#[]⟩ : ByteArray)]) ?_ 1 _ rfl; refine bq ?_; refine blk_put (cs := #[.int .i64 0, .int .i64 0, .int .i64 0, .int .i64 0, .int .i64 0, .string (⟨#[]⟩ : ByteArray)]) ?_ 0 _ rfl; exact bq BK101.out) Tryd.underlying39 rfl (by kernel_rfl)) rfl ?_
  exact ⟨qq4, qS1 GE101 HB.out⟩
def wire_counts.f (a0 : Int) : Option (Bool) := if a0 ≥ 0 then (some (decide (a0 ≤ 268435455))) else (some false)
set_option maxHeartbeats 8000000 in
set_option maxRecDepth 100000 in
theorem wire_counts.calls (a0 : Int) (r : Bool) (w : World) (h : wire_counts.f a0 = some r) :
    Calls Tryd.prog 42 #[.int .i64 a0] w fun e w' => e = .returned (.bool r) ∧ Drawn0 w w' := by
  have H := h
  unfold wire_counts.f at H
  clear h
  by_cases c2 : a0 ≥ 0
  · rw [if_pos c2] at H
    have c2b0 : decide (0 ≤ a0) = true := decide_eq_true c2
    clear c2
    obtain rfl := Option.some.inj H
    go_enter Tryd.func42, Tryd.ntmps42
    go_wp2
    go_ret
    exact ⟨qq6, qq9⟩
  · rw [if_neg c2] at H
    have c2b0 : decide (0 ≤ a0) = false := decide_eq_false c2
    clear c2
    obtain rfl := Option.some.inj H
    go_enter Tryd.func42, Tryd.ntmps42
    go_wp2
    go_ret
    exact ⟨qq6, qq9⟩
def wire_within.f (a0 : Int) (a1 : Int) (a2 : Int) : Option (Bool) := if a0 ≥ a1 then (some (decide (a0 ≤ a2))) else (some false)
set_option maxHeartbeats 8000000 in
set_option maxRecDepth 100000 in
theorem wire_within.calls (a0 : Int) (a1 : Int) (a2 : Int) (r : Bool) (w : World) (h : wire_within.f a0 a1 a2 = some r) :
    Calls Tryd.prog 43 #[.int .i64 a0, .int .i64 a1, .int .i64 a2] w fun e w' => e = .returned (.bool r) ∧ Drawn0 w w' := by
  have H := h
  unfold wire_within.f at H
  clear h
  by_cases c4 : a0 ≥ a1
  · rw [if_pos c4] at H
    have c4b0 : decide (a1 ≤ a0) = true := decide_eq_true c4
    clear c4
    obtain rfl := Option.some.inj H
    go_enter Tryd.func43, Tryd.ntmps43
    go_wp2
    go_ret
    exact ⟨qq6, qq9⟩
  · rw [if_neg c4] at H
    have c4b0 : decide (a1 ≤ a0) = false := decide_eq_false c4
    clear c4
    obtain rfl := Option.some.inj H
    go_enter Tryd.func43, Tryd.ntmps43
    go_wp2
    go_ret
    exact ⟨qq6, qq9⟩
mutual
def wire_Right.j0 : Nat → Bool → Int → Int → Int → Int → Int → ByteArray → Option (Bool)
  | 0, _, _, _, _, _, _, _ => none
  | k + 1, x14, x102000, x102001, x102002, x102003, x102004, x102005 => if x14 = true then (some false) else (if x102005.toList = ([] : List UInt8) then ((wire_within.f x102002 0 15).bind fun t103 => (if t103 = true then ((wire_within.f x102003 0 127).bind fun t104 => (wire_Right.j1 k t104 x102000 x102001 x102002 x102003 x102004 x102005)) else (wire_Right.j1 k false x102000 x102001 x102002 x102003 x102004 x102005))) else (wire_Right.j1 k false x102000 x102001 x102002 x102003 x102004 x102005))
def wire_Right.j1 : Nat → Bool → Int → Int → Int → Int → Int → ByteArray → Option (Bool)
  | 0, _, _, _, _, _, _, _ => none
  | k + 1, x3, x102000, x102001, x102002, x102003, x102004, x102005 => if x102002 = 0 then (wire_Right.j2 k x3 (x102004 == 0) x102000 x102001 x102002 x102003 x102004 x102005) else (wire_Right.j2 k x3 false x102000 x102001 x102002 x102003 x102004 x102005)
def wire_Right.j2 : Nat → Bool → Bool → Int → Int → Int → Int → Int → ByteArray → Option (Bool)
  | 0, _, _, _, _, _, _, _, _ => none
  | k + 1, x3, x4, x102000, x102001, x102002, x102003, x102004, x102005 => if x102001 = 8 then (wire_Right.j3 k x3 x4 x102001 (x102001 == 8) x102000 x102001 x102002 x102003 x102004 x102005) else (if x102001 = 9 then (wire_Right.j3 k x3 x4 x102001 (x102001 == 9) x102000 x102001 x102002 x102003 x102004 x102005) else (if x102001 = 10 then (wire_Right.j3 k x3 x4 x102001 (x102001 == 10) x102000 x102001 x102002 x102003 x102004 x102005) else (if x102001 = 11 then (wire_Right.j3 k x3 x4 x102001 (x102001 == 11) x102000 x102001 x102002 x102003 x102004 x102005) else (wire_Right.j3 k x3 x4 x102001 (x102001 == 14) x102000 x102001 x102002 x102003 x102004 x102005))))
def wire_Right.j3 : Nat → Bool → Bool → Int → Bool → Int → Int → Int → Int → Int → ByteArray → Option (Bool)
  | 0, _, _, _, _, _, _, _, _, _, _ => none
  | k + 1, x3, x4, x37, x38, x102000, x102001, x102002, x102003, x102004, x102005 => if x38 = true then (if x3 = true then ((wire_within.f x102004 0 127).bind fun t105 => (some t105)) else (some false)) else (if x37 = 12 then (wire_Right.j4 k x3 x4 x37 (x37 == 12) x102000 x102001 x102002 x102003 x102004 x102005) else (wire_Right.j4 k x3 x4 x37 (x37 == 13) x102000 x102001 x102002 x102003 x102004 x102005))
def wire_Right.j4 : Nat → Bool → Bool → Int → Bool → Int → Int → Int → Int → Int → ByteArray → Option (Bool)
  | 0, _, _, _, _, _, _, _, _, _, _ => none
  | k + 1, x3, x4, x37, x50, x102000, x102001, x102002, x102003, x102004, x102005 => if x50 = true then (if x3 = true then (some (x102004 == 0)) else (some false)) else (if x37 = 15 then (if x4 = true then (if x102003 = 240 then (some true) else (some (x102003 == 247))) else (some false)) else (if x37 = 16 then (if x4 = true then ((wire_within.f x102003 0 127).bind fun t106 => (some t106)) else (some false)) else (some false)))
end
def wire_Right.f (k : Nat) (a0_0 : Int) (a0_1 : Int) (a0_2 : Int) (a0_3 : Int) (a0_4 : Int) (a0_5 : ByteArray) : Option (Bool) := (wire_counts.f a0_0).bind fun t102 => (if t102 = true then (wire_Right.j0 k (decide ((a0_5.size : Int) > 100000)) a0_0 a0_1 a0_2 a0_3 a0_4 a0_5) else (wire_Right.j0 k true a0_0 a0_1 a0_2 a0_3 a0_4 a0_5))
theorem wire_Right.mono_l : ∀ k, (∀ y0 y1 y2 y3 y4 y5 y6, LeO (wire_Right.j0 k y0 y1 y2 y3 y4 y5 y6) (wire_Right.j0 (k + 1) y0 y1 y2 y3 y4 y5 y6)) ∧ (∀ y0 y1 y2 y3 y4 y5 y6, LeO (wire_Right.j1 k y0 y1 y2 y3 y4 y5 y6) (wire_Right.j1 (k + 1) y0 y1 y2 y3 y4 y5 y6)) ∧ (∀ y0 y1 y2 y3 y4 y5 y6 y7, LeO (wire_Right.j2 k y0 y1 y2 y3 y4 y5 y6 y7) (wire_Right.j2 (k + 1) y0 y1 y2 y3 y4 y5 y6 y7)) ∧ (∀ y0 y1 y2 y3 y4 y5 y6 y7 y8 y9, LeO (wire_Right.j3 k y0 y1 y2 y3 y4 y5 y6 y7 y8 y9) (wire_Right.j3 (k + 1) y0 y1 y2 y3 y4 y5 y6 y7 y8 y9)) ∧ (∀ y0 y1 y2 y3 y4 y5 y6 y7 y8 y9, LeO (wire_Right.j4 k y0 y1 y2 y3 y4 y5 y6 y7 y8 y9) (wire_Right.j4 (k + 1) y0 y1 y2 y3 y4 y5 y6 y7 y8 y9))
  | 0 => ⟨fun _ _ _ _ _ _ _ r h => by simp [wire_Right.j0] at h, fun _ _ _ _ _ _ _ r h => by simp [wire_Right.j1] at h, fun _ _ _ _ _ _ _ _ r h => by simp [wire_Right.j2] at h, fun _ _ _ _ _ _ _ _ _ _ r h => by simp [wire_Right.j3] at h, fun _ _ _ _ _ _ _ _ _ _ r h => by simp [wire_Right.j4] at h⟩
  | k + 1 => by
    obtain ⟨ih0, ih1, ih2, ih3, ih4⟩ := wire_Right.mono_l k
    refine ⟨?_, ?_, ?_, ?_, ?_⟩
    · intro y0 y1 y2 y3 y4 y5 y6
      unfold wire_Right.j0
      repeat' first
      | (with_reducible exact ih0 _ _ _ _ _ _ _)
      | (with_reducible exact ih1 _ _ _ _ _ _ _)
      | (with_reducible exact ih2 _ _ _ _ _ _ _ _)
      | (with_reducible exact ih3 _ _ _ _ _ _ _ _ _ _)
      | (with_reducible exact ih4 _ _ _ _ _ _ _ _ _ _)
      | (with_reducible exact LeO.refl _)
      | (with_reducible exact LeO.none _)
      | (with_reducible refine LeO.ite ?_ ?_)
      | (with_reducible refine LeO.bind ?_ (fun _ => ?_))
      | exact ih0 _ _ _ _ _ _ _
      | exact ih1 _ _ _ _ _ _ _
      | exact ih2 _ _ _ _ _ _ _ _
      | exact ih3 _ _ _ _ _ _ _ _ _ _
      | exact ih4 _ _ _ _ _ _ _ _ _ _
      | exact LeO.none _
      | refine LeO.ite ?_ ?_
      | refine LeO.bind ?_ (fun _ => ?_)
    · intro y0 y1 y2 y3 y4 y5 y6
      unfold wire_Right.j1
      repeat' first
      | (with_reducible exact ih0 _ _ _ _ _ _ _)
      | (with_reducible exact ih1 _ _ _ _ _ _ _)
      | (with_reducible exact ih2 _ _ _ _ _ _ _ _)
      | (with_reducible exact ih3 _ _ _ _ _ _ _ _ _ _)
      | (with_reducible exact ih4 _ _ _ _ _ _ _ _ _ _)
      | (with_reducible exact LeO.refl _)
      | (with_reducible exact LeO.none _)
      | (with_reducible refine LeO.ite ?_ ?_)
      | (with_reducible refine LeO.bind ?_ (fun _ => ?_))
      | exact ih0 _ _ _ _ _ _ _
      | exact ih1 _ _ _ _ _ _ _
      | exact ih2 _ _ _ _ _ _ _ _
      | exact ih3 _ _ _ _ _ _ _ _ _ _
      | exact ih4 _ _ _ _ _ _ _ _ _ _
      | exact LeO.none _
      | refine LeO.ite ?_ ?_
      | refine LeO.bind ?_ (fun _ => ?_)
    · intro y0 y1 y2 y3 y4 y5 y6 y7
      unfold wire_Right.j2
      repeat' first
      | (with_reducible exact ih0 _ _ _ _ _ _ _)
      | (with_reducible exact ih1 _ _ _ _ _ _ _)
      | (with_reducible exact ih2 _ _ _ _ _ _ _ _)
      | (with_reducible exact ih3 _ _ _ _ _ _ _ _ _ _)
      | (with_reducible exact ih4 _ _ _ _ _ _ _ _ _ _)
      | (with_reducible exact LeO.refl _)
      | (with_reducible exact LeO.none _)
      | (with_reducible refine LeO.ite ?_ ?_)
      | (with_reducible refine LeO.bind ?_ (fun _ => ?_))
      | exact ih0 _ _ _ _ _ _ _
      | exact ih1 _ _ _ _ _ _ _
      | exact ih2 _ _ _ _ _ _ _ _
      | exact ih3 _ _ _ _ _ _ _ _ _ _
      | exact ih4 _ _ _ _ _ _ _ _ _ _
      | exact LeO.none _
      | refine LeO.ite ?_ ?_
      | refine LeO.bind ?_ (fun _ => ?_)
    · intro y0 y1 y2 y3 y4 y5 y6 y7 y8 y9
      unfold wire_Right.j3
      repeat' first
      | (with_reducible exact ih0 _ _ _ _ _ _ _)
      | (with_reducible exact ih1 _ _ _ _ _ _ _)
      | (with_reducible exact ih2 _ _ _ _ _ _ _ _)
      | (with_reducible exact ih3 _ _ _ _ _ _ _ _ _ _)
      | (with_reducible exact ih4 _ _ _ _ _ _ _ _ _ _)
      | (with_reducible exact LeO.refl _)
      | (with_reducible exact LeO.none _)
      | (with_reducible refine LeO.ite ?_ ?_)
      | (with_reducible refine LeO.bind ?_ (fun _ => ?_))
      | exact ih0 _ _ _ _ _ _ _
      | exact ih1 _ _ _ _ _ _ _
      | exact ih2 _ _ _ _ _ _ _ _
      | exact ih3 _ _ _ _ _ _ _ _ _ _
      | exact ih4 _ _ _ _ _ _ _ _ _ _
      | exact LeO.none _
      | refine LeO.ite ?_ ?_
      | refine LeO.bind ?_ (fun _ => ?_)
    · intro y0 y1 y2 y3 y4 y5 y6 y7 y8 y9
      unfold wire_Right.j4
      repeat' first
      | (with_reducible exact ih0 _ _ _ _ _ _ _)
      | (with_reducible exact ih1 _ _ _ _ _ _ _)
      | (with_reducible exact ih2 _ _ _ _ _ _ _ _)
      | (with_reducible exact ih3 _ _ _ _ _ _ _ _ _ _)
      | (with_reducible exact ih4 _ _ _ _ _ _ _ _ _ _)
      | (with_reducible exact LeO.refl _)
      | (with_reducible exact LeO.none _)
      | (with_reducible refine LeO.ite ?_ ?_)
      | (with_reducible refine LeO.bind ?_ (fun _ => ?_))
      | exact ih0 _ _ _ _ _ _ _
      | exact ih1 _ _ _ _ _ _ _
      | exact ih2 _ _ _ _ _ _ _ _
      | exact ih3 _ _ _ _ _ _ _ _ _ _
      | exact ih4 _ _ _ _ _ _ _ _ _ _
      | exact LeO.none _
      | refine LeO.ite ?_ ?_
      | refine LeO.bind ?_ (fun _ => ?_)
theorem wire_Right.mono : ∀ a0 a1 a2 a3 a4 a5 k, LeO (wire_Right.f k a0 a1 a2 a3 a4 a5) (wire_Right.f (k + 1) a0 a1 a2 a3 a4 a5) := by
  intro a0 a1 a2 a3 a4 a5 k
  obtain ⟨ih0, ih1, ih2, ih3, ih4⟩ := wire_Right.mono_l k
  unfold wire_Right.f
  repeat' first
      | (with_reducible exact ih0 _ _ _ _ _ _ _)
      | (with_reducible exact ih1 _ _ _ _ _ _ _)
      | (with_reducible exact ih2 _ _ _ _ _ _ _ _)
      | (with_reducible exact ih3 _ _ _ _ _ _ _ _ _ _)
      | (with_reducible exact ih4 _ _ _ _ _ _ _ _ _ _)
      | (with_reducible exact LeO.refl _)
      | (with_reducible exact LeO.none _)
      | (with_reducible refine LeO.ite ?_ ?_)
      | (with_reducible refine LeO.bind ?_ (fun _ => ?_))
      | exact ih0 _ _ _ _ _ _ _
      | exact ih1 _ _ _ _ _ _ _
      | exact ih2 _ _ _ _ _ _ _ _
      | exact ih3 _ _ _ _ _ _ _ _ _ _
      | exact ih4 _ _ _ _ _ _ _ _ _ _
      | exact LeO.none _
      | refine LeO.ite ?_ ?_
      | refine LeO.bind ?_ (fun _ => ?_)
set_option maxHeartbeats 8000000 in
set_option maxRecDepth 100000 in
theorem wire_Right.calls (k : Nat) (a0_0 : Int) (a0_1 : Int) (a0_2 : Int) (a0_3 : Int) (a0_4 : Int) (a0_5 : ByteArray) (r : Bool) (w : World) (h : wire_Right.f k a0_0 a0_1 a0_2 a0_3 a0_4 a0_5 = some r) :
    Calls Tryd.prog 23 #[.agg #[.int .i64 a0_0, .int .i64 a0_1, .int .i64 a0_2, .int .i64 a0_3, .int .i64 a0_4, .string a0_5]] w fun e w' => e = .returned (.bool r) ∧ Below w.heap.size w w' := by
  have hu39 := Tryd.underlying39
  have HB := Aside0.mk (Below.refl w.heap.size w)
  have H := h
  unfold wire_Right.f at H
  clear h
  have HC2 := Aside0.mk H
  clear H
  go_enter Tryd.func23, Tryd.ntmps23
  go_upto_region 1 with (first | ((with_reducible refine gate_dst (N := 1) rfl ?_); (try (refine gate_guard (by rfl) ?_; dsimp only)); refine box_event ?hg (N := 1) ?hd (cs := #[.int .i64 a0_0, .int .i64 a0_1, .int .i64 a0_2, .int .i64 a0_3, .int .i64 a0_4, .string a0_5]) (t := 39) ?hr ?_; (case hd => rfl); (case hg => rfl); (case hr => exact qq8); intro gb101 hg w3 hbox hb; have BK101 := Aside0.mk (hbox); have GW101 := Aside0.mk ((qq7 : w.heap.size ≤ gb101)); have GE101 := Aside0.mk ((qq7 : w.heap.size ≤ gb101)); replace HB := Aside0.mk (below_step (qB HB.out) hb); clear hb hbox hg))
  (try simp only [Act.put, List.setIfInBounds_toArray, List.set_cons_zero, List.set_cons_succ])
  go_cut [14] (fun v14 wc => ∃ (kq : Nat) (x14_1 : Bool), v14 = .bool x14_1 ∧ Aside0 (wire_Right.j0 kq x14_1 a0_0 a0_1 a0_2 a0_3 a0_4 a0_5 = some r) ∧ Aside0 (kq ≤ k) ∧ Aside0 (wc.heap[gb101]? = some (.cells #[.int .i64 a0_0, .int .i64 a0_1, .int .i64 a0_2, .int .i64 a0_3, .int .i64 a0_4, .string a0_5] 39 (0, 0))) ∧ Aside0 (Below w.heap.size w wc))
  case first =>
    have H := HC2.out
    clear HC2
    replace H := Option.bind_eq_some_iff.mp H
    obtain ⟨t102, A40, H⟩ := H
    try dsimp -simprocs only at H
    have A4 := Aside0.mk A40
    clear A40
    by_cases c5 : t102 = true
    · subst c5
      have H1 : (wire_Right.j0 k (decide ((a0_5.size : Int) > 100000)) a0_0 a0_1 a0_2 a0_3 a0_4 a0_5) = some r := by rw [if_pos rfl] at H; exact H
      clear H
      have H := H1
      clear H1
      have H' := Aside0.mk H
      clear H
      obtain ⟨hcz6_0, hcz6_1, hcz6_2, hcz6_3, hcz6_4, hcz6_5, hfz6_0, hfz6_1, hfz6_2, hfz6_3, hfz6_4, hfz6_5⟩ := blk6 BK101.out
      go_wp2_with (first | ((with_reducible refine gate_callee (f := 42) rfl ?_); refine goesL_ (some 7) rfl rfl Tryd.func42 (by kernel_rfl) rfl #[.int .i64 a0_0] rfl qq0 ?_; (with_reducible refine (wire_counts.calls a0_0 true _ A4.out).mono ?_); rintro e w' ⟨rfl, ⟨nd, rfl⟩⟩; refine ⟨_, rfl, ?_⟩))
      go_meet
      case rel => exact ⟨_, (decide ((a0_5.size : Int) > 100000)), qq6, H', ⟨qql⟩, ⟨bq BK101.out⟩, ⟨qS1 GE101 HB.out⟩⟩
    replace c5 := Bool.eq_false_iff.mpr c5
    subst c5
    have H1 : (wire_Right.j0 k true a0_0 a0_1 a0_2 a0_3 a0_4 a0_5) = some r := by rw [if_neg (show ¬ (false = true) by decide)] at H; exact H
    clear H
    have H := H1
    clear H1
    have H' := Aside0.mk H
    clear H
    obtain ⟨hcz7_0, hcz7_1, hcz7_2, hcz7_3, hcz7_4, hcz7_5, hfz7_0, hfz7_1, hfz7_2, hfz7_3, hfz7_4, hfz7_5⟩ := blk6 BK101.out
    go_wp2_with (first | ((with_reducible refine gate_callee (f := 42) rfl ?_); refine goesL_ (some 7) rfl rfl Tryd.func42 (by kernel_rfl) rfl #[.int .i64 a0_0] rfl qq0 ?_; (with_reducible refine (wire_counts.calls a0_0 false _ A4.out).mono ?_); rintro e w' ⟨rfl, ⟨nd, rfl⟩⟩; refine ⟨_, rfl, ?_⟩))
    go_meet
    case rel => exact ⟨_, (true), qq6, H', ⟨qql⟩, ⟨bq BK101.out⟩, ⟨qS1 GE101 HB.out⟩⟩
  case rest =>
    clear HC2
    try clear c2
    try clear p2
    try clear c4
    try clear c5
    try clear hcz6_0
    try clear hcz6_1
    try clear hcz6_2
    try clear hcz6_3
    try clear hcz6_4
    try clear hcz6_5
    try clear hcz7_0
    try clear hcz7_1
    try clear hcz7_2
    try clear hcz7_3
    try clear hcz7_4
    try clear hcz7_5
    try clear hfz6_0
    try clear hfz6_1
    try clear hfz6_2
    try clear hfz6_3
    try clear hfz6_4
    try clear hfz6_5
    try clear hfz7_0
    try clear hfz7_1
    try clear hfz7_2
    try clear hfz7_3
    try clear hfz7_4
    try clear hfz7_5
    obtain ⟨kq, x14_1, rfl, HA, HJ1, BK101, HB⟩ := hcut
    cases kq with
    | zero => exact absurd HA.out (by simp [wire_Right.j0])
    | succ kj1 =>
      have H := HA.out
      clear HA
      simp only [wire_Right.j0] at H
      by_cases c8 : x14_1 = true
      · subst c8
        have H1 : (some false) = some r := by rw [if_pos rfl] at H; exact H
        clear H
        have H := H1
        clear H1
        obtain rfl := Option.some.inj H
        go_wp2
        go_ret
        exact ⟨qq4, qS1 GE101 HB.out⟩
      replace c8 := Bool.eq_false_iff.mpr c8
      subst c8
      have H1 : (if a0_5.toList = ([] : List UInt8) then ((wire_within.f a0_2 0 15).bind fun t103 => (if t103 = true then ((wire_within.f a0_3 0 127).bind fun t104 => (wire_Right.j1 kj1 t104 a0_0 a0_1 a0_2 a0_3 a0_4 a0_5)) else (wire_Right.j1 kj1 false a0_0 a0_1 a0_2 a0_3 a0_4 a0_5))) else (wire_Right.j1 kj1 false a0_0 a0_1 a0_2 a0_3 a0_4 a0_5)) = some r := by rw [if_neg (show ¬ (false = true) by decide)] at H; exact H
      clear H
      have H := H1
      clear H1
      have HC9 := Aside0.mk H
      clear H
      go_upto_region 3 with (fail)
      go_cut [3] (fun v3 wc => ∃ (kq : Nat) (x3_8 : Bool), v3 = .bool x3_8 ∧ Aside0 (wire_Right.j1 kq x3_8 a0_0 a0_1 a0_2 a0_3 a0_4 a0_5 = some r) ∧ Aside0 (kq ≤ kj1) ∧ Aside0 (wc.heap[gb101]? = some (.cells #[.int .i64 a0_0, .int .i64 a0_1, .int .i64 a0_2, .int .i64 a0_3, .int .i64 a0_4, .string a0_5] 39 (0, 0))) ∧ Aside0 (Below w.heap.size w wc))
      case first =>
        have H := HC9.out
        clear HC9
        by_cases c10 : a0_5.toList = ([] : List UInt8)
        rotate_left
        · rw [if_neg c10] at H
          have c10b0 : (a0_5.toList == ([] : List UInt8)) = false := beq_eq_false_iff_ne.mpr c10
          have c10b1 : (a0_5.toList != ([] : List UInt8)) = true := bne_iff_ne.mpr c10
          (first | rw [c10b0] | (simp only [i64_w, i32_w]; rw [c10b0]) | skip)
          have H' := Aside0.mk H
          clear H
          obtain ⟨hcz16_0, hcz16_1, hcz16_2, hcz16_3, hcz16_4, hcz16_5, hfz16_0, hfz16_1, hfz16_2, hfz16_3, hfz16_4, hfz16_5⟩ := blk6 BK101.out
          go_wp2
          go_meet
          case rel => exact ⟨_, (false), qq6, H', ⟨qqN⟩, ⟨bq BK101.out⟩, ⟨qS1 GE101 HB.out⟩⟩
        rw [if_pos c10] at H
        have c10b0 : (a0_5.toList == ([] : List UInt8)) = true := beq_iff_eq.mpr c10
        have c10b1 : (a0_5.toList != ([] : List UInt8)) = false := bne_eq_false_iff_eq.mpr c10
        clear c10
        (first | rw [c10b0] | (simp only [i64_w, i32_w]; rw [c10b0]) | skip)
        replace H := Option.bind_eq_some_iff.mp H
        obtain ⟨t103, A110, H⟩ := H
        try dsimp -simprocs only at H
        have A11 := Aside0.mk A110
        clear A110
        by_cases c12 : t103 = true
        rotate_left
        · replace c12 := Bool.eq_false_iff.mpr c12
          subst c12
          have H1 : (wire_Right.j1 kj1 false a0_0 a0_1 a0_2 a0_3 a0_4 a0_5) = some r := by rw [if_neg (show ¬ (false = true) by decide)] at H; exact H
          clear H
          have H := H1
          clear H1
          have H' := Aside0.mk H
          clear H
          obtain ⟨hcz15_0, hcz15_1, hcz15_2, hcz15_3, hcz15_4, hcz15_5, hfz15_0, hfz15_1, hfz15_2, hfz15_3, hfz15_4, hfz15_5⟩ := blk6 BK101.out
          go_wp2_with (first | (go_at_call 43; (with_reducible refine (wire_within.calls a0_2 0 15 false _ A11.out).mono ?_); rintro e w' ⟨rfl, ⟨nd, rfl⟩⟩))
          go_meet
          case rel => exact ⟨_, (false), qq6, H', ⟨qqN⟩, ⟨bq BK101.out⟩, ⟨qS1 GE101 HB.out⟩⟩
        subst c12
        have H1 : ((wire_within.f a0_3 0 127).bind fun t104 => (wire_Right.j1 kj1 t104 a0_0 a0_1 a0_2 a0_3 a0_4 a0_5)) = some r := by rw [if_pos rfl] at H; exact H
        clear H
        have H := H1
        clear H1
        replace H := Option.bind_eq_some_iff.mp H
        obtain ⟨t104, A130, H⟩ := H
        try dsimp -simprocs only at H
        have A13 := Aside0.mk A130
        clear A130
        have H' := Aside0.mk H
        clear H
        obtain ⟨hcz14_0, hcz14_1, hcz14_2, hcz14_3, hcz14_4, hcz14_5, hfz14_0, hfz14_1, hfz14_2, hfz14_3, hfz14_4, hfz14_5⟩ := blk6 BK101.out
        go_wp2_with (first | (go_at_call 43; (with_reducible refine (wire_within.calls a0_2 0 15 true _ A11.out).mono ?_); rintro e w' ⟨rfl, ⟨nd, rfl⟩⟩) | (go_at_call 43; (with_reducible refine (wire_within.calls a0_3 0 127 t104 _ A13.out).mono ?_); rintro e w' ⟨rfl, ⟨nd, rfl⟩⟩))
        go_meet
        case rel => exact ⟨_, (t104), qq6, H', ⟨qqN⟩, ⟨bq BK101.out⟩, ⟨qS1 GE101 HB.out⟩⟩
      case rest =>
        clear HC9
        try clear c1
        try clear c2
        try clear p2
        try clear c4
        try clear c5
        try clear c8
        try clear c10
        try clear c10b0
        try clear c10b1
        try clear c12
        try clear hcz14_0
        try clear hcz14_1
        try clear hcz14_2
        try clear hcz14_3
        try clear hcz14_4
        try clear hcz14_5
        try clear hcz15_0
        try clear hcz15_1
        try clear hcz15_2
        try clear hcz15_3
        try clear hcz15_4
        try clear hcz15_5
        try clear hcz16_0
        try clear hcz16_1
        try clear hcz16_2
        try clear hcz16_3
        try clear hcz16_4
        try clear hcz16_5
        try clear hcz6_0
        try clear hcz6_1
        try clear hcz6_2
        try clear hcz6_3
        try clear hcz6_4
        try clear hcz6_5
        try clear hcz7_0
        try clear hcz7_1
        try clear hcz7_2
        try clear hcz7_3
        try clear hcz7_4
        try clear hcz7_5
        try clear hfz14_0
        try clear hfz14_1
        try clear hfz14_2
        try clear hfz14_3
        try clear hfz14_4
        try clear hfz14_5
        try clear hfz15_0
        try clear hfz15_1
        try clear hfz15_2
        try clear hfz15_3
        try clear hfz15_4
        try clear hfz15_5
        try clear hfz16_0
        try clear hfz16_1
        try clear hfz16_2
        try clear hfz16_3
        try clear hfz16_4
        try clear hfz16_5
        try clear hfz6_0
        try clear hfz6_1
        try clear hfz6_2
        try clear hfz6_3
        try clear hfz6_4
        try clear hfz6_5
        try clear hfz7_0
        try clear hfz7_1
        try clear hfz7_2
        try clear hfz7_3
        try clear hfz7_4
        try clear hfz7_5
        try clear p2
        obtain ⟨kq, x3_8, rfl, HA, HJ8, BK101, HB⟩ := hcut
        cases kq with
        | zero => exact absurd HA.out (by simp [wire_Right.j1])
        | succ kj8 =>
          have H := HA.out
          clear HA
          simp only [wire_Right.j1] at H
          have HC17 := Aside0.mk H
          clear H
          go_upto_region 4 with (fail)
          go_cut [4] (fun v4 wc => ∃ (kq : Nat) (x4_16 : Bool), v4 = .bool x4_16 ∧ Aside0 (wire_Right.j2 kq x3_8 x4_16 a0_0 a0_1 a0_2 a0_3 a0_4 a0_5 = some r) ∧ Aside0 (kq ≤ kj8) ∧ Aside0 (wc.heap[gb101]? = some (.cells #[.int .i64 a0_0, .int .i64 a0_1, .int .i64 a0_2, .int .i64 a0_3, .int .i64 a0_4, .string a0_5] 39 (0, 0))) ∧ Aside0 (Below w.heap.size w wc))
          case first =>
            have H := HC17.out
            clear HC17
            by_cases c18 : a0_2 = 0
            rotate_left
            · rw [if_neg c18] at H
              have c18b0 : (a0_2 == 0) = false := beq_eq_false_iff_ne.mpr c18
              have c18b1 : (a0_2 != 0) = true := bne_iff_ne.mpr c18
              (first | rw [c18b0] | (simp only [i64_w, i32_w]; rw [c18b0]) | skip)
              have H' := Aside0.mk H
              clear H
              obtain ⟨hcz20_0, hcz20_1, hcz20_2, hcz20_3, hcz20_4, hcz20_5, hfz20_0, hfz20_1, hfz20_2, hfz20_3, hfz20_4, hfz20_5⟩ := blk6 BK101.out
              go_wp2
              go_meet
              case rel => exact ⟨_, (false), qq6, H', ⟨by have := HJ1.out; have := HJ8.out; first | omega | exact Nat.le_refl _⟩, ⟨bq BK101.out⟩, ⟨qS1 GE101 HB.out⟩⟩
            rw [if_pos c18] at H
            have c18b0 : (a0_2 == 0) = true := beq_iff_eq.mpr c18
            have c18b1 : (a0_2 != 0) = false := bne_eq_false_iff_eq.mpr c18
            clear c18
            (first | rw [c18b0] | (simp only [i64_w, i32_w]; rw [c18b0]) | skip)
            have H' := Aside0.mk H
            clear H
            obtain ⟨hcz19_0, hcz19_1, hcz19_2, hcz19_3, hcz19_4, hcz19_5, hfz19_0, hfz19_1, hfz19_2, hfz19_3, hfz19_4, hfz19_5⟩ := blk6 BK101.out
            go_wp2
            go_meet
            case rel => exact ⟨_, ((a0_4 == 0)), qq6, H', ⟨by have := HJ1.out; have := HJ8.out; first | omega | exact Nat.le_refl _⟩, ⟨bq BK101.out⟩, ⟨qS1 GE101 HB.out⟩⟩
          case rest =>
            clear HC17
            try clear c1
            try clear c2
            try clear p2
            try clear c4
            try clear c5
            try clear c8
            try clear c10
            try clear c10b0
            try clear c10b1
            try clear c12
            try clear c18
            try clear c18b0
            try clear c18b1
            try clear hcz14_0
            try clear hcz14_1
            try clear hcz14_2
            try clear hcz14_3
            try clear hcz14_4
            try clear hcz14_5
            try clear hcz15_0
            try clear hcz15_1
            try clear hcz15_2
            try clear hcz15_3
            try clear hcz15_4
            try clear hcz15_5
            try clear hcz16_0
            try clear hcz16_1
            try clear hcz16_2
            try clear hcz16_3
            try clear hcz16_4
            try clear hcz16_5
            try clear hcz19_0
            try clear hcz19_1
            try clear hcz19_2
            try clear hcz19_3
            try clear hcz19_4
            try clear hcz19_5
            try clear hcz20_0
            try clear hcz20_1
            try clear hcz20_2
            try clear hcz20_3
            try clear hcz20_4
            try clear hcz20_5
            try clear hcz6_0
            try clear hcz6_1
            try clear hcz6_2
            try clear hcz6_3
            try clear hcz6_4
            try clear hcz6_5
            try clear hcz7_0
            try clear hcz7_1
            try clear hcz7_2
            try clear hcz7_3
            try clear hcz7_4
            try clear hcz7_5
            try clear hfz14_0
            try clear hfz14_1
            try clear hfz14_2
            try clear hfz14_3
            try clear hfz14_4
            try clear hfz14_5
            try clear hfz15_0
            try clear hfz15_1
            try clear hfz15_2
            try clear hfz15_3
            try clear hfz15_4
            try clear hfz15_5
            try clear hfz16_0
            try clear hfz16_1
            try clear hfz16_2
            try clear hfz16_3
            try clear hfz16_4
            try clear hfz16_5
            try clear hfz19_0
            try clear hfz19_1
            try clear hfz19_2
            try clear hfz19_3
            try clear hfz19_4
            try clear hfz19_5
            try clear hfz20_0
            try clear hfz20_1
            try clear hfz20_2
            try clear hfz20_3
            try clear hfz20_4
            try clear hfz20_5
            try clear hfz6_0
            try clear hfz6_1
            try clear hfz6_2
            try clear hfz6_3
            try clear hfz6_4
            try clear hfz6_5
            try clear hfz7_0
            try clear hfz7_1
            try clear hfz7_2
            try clear hfz7_3
            try clear hfz7_4
            try clear hfz7_5
            try clear p2
            obtain ⟨kq, x4_16, rfl, HA, HJ16, BK101, HB⟩ := hcut
            cases kq with
            | zero => exact absurd HA.out (by simp [wire_Right.j2])
            | succ kj16 =>
              have H := HA.out
              clear HA
              simp only [wire_Right.j2] at H
              have HC21 := Aside0.mk H
              clear H
              obtain ⟨hcz22_0, hcz22_1, hcz22_2, hcz22_3, hcz22_4, hcz22_5, hfz22_0, hfz22_1, hfz22_2, hfz22_3, hfz22_4, hfz22_5⟩ := blk6 BK101.out
              go_upto_if 38 with (fail)
              go_cut [38] (fun v38 wc => ∃ (kq : Nat) (x38_20 : Bool), v38 = .bool x38_20 ∧ Aside0 (wire_Right.j3 kq x3_8 x4_16 a0_1 x38_20 a0_0 a0_1 a0_2 a0_3 a0_4 a0_5 = some r) ∧ Aside0 (kq ≤ kj16) ∧ Aside0 (wc.heap[gb101]? = some (.cells #[.int .i64 a0_0, .int .i64 a0_1, .int .i64 a0_2, .int .i64 a0_3, .int .i64 a0_4, .string a0_5] 39 (0, 0))) ∧ Aside0 (Below w.heap.size w wc))
              case first =>
                have H := HC21.out
                clear HC21
                by_cases c23 : a0_1 = 8
                · rw [if_pos c23] at H
                  have c23b0 : (a0_1 == 8) = true := beq_iff_eq.mpr c23
                  have c23b1 : (a0_1 != 8) = false := bne_eq_false_iff_eq.mpr c23
                  clear c23
                  (first | rw [c23b0] | (simp only [i64_w, i32_w]; rw [c23b0]) | skip)
                  have H' := Aside0.mk H
                  clear H
                  go_wp2
                  go_meet
                  case rel => exact ⟨_, ((a0_1 == 8)), qq6, H', ⟨qqs⟩, ⟨bq BK101.out⟩, ⟨qS1 GE101 HB.out⟩⟩
                rw [if_neg c23] at H
                have c23b0 : (a0_1 == 8) = false := beq_eq_false_iff_ne.mpr c23
                have c23b1 : (a0_1 != 8) = true := bne_iff_ne.mpr c23
                (first | rw [c23b0] | (simp only [i64_w, i32_w]; rw [c23b0]) | skip)
                by_cases c24 : a0_1 = 9
                · rw [if_pos c24] at H
                  have c24b0 : (a0_1 == 9) = true := beq_iff_eq.mpr c24
                  have c24b1 : (a0_1 != 9) = false := bne_eq_false_iff_eq.mpr c24
                  clear c24
                  have H' := Aside0.mk H
                  clear H
                  go_wp2
                  go_meet
                  case rel => exact ⟨_, ((a0_1 == 9)), qq6, H', ⟨qqs⟩, ⟨bq BK101.out⟩, ⟨qS1 GE101 HB.out⟩⟩
                rw [if_neg c24] at H
                have c24b0 : (a0_1 == 9) = false := beq_eq_false_iff_ne.mpr c24
                have c24b1 : (a0_1 != 9) = true := bne_iff_ne.mpr c24
                by_cases c25 : a0_1 = 10
                · rw [if_pos c25] at H
                  have c25b0 : (a0_1 == 10) = true := beq_iff_eq.mpr c25
                  have c25b1 : (a0_1 != 10) = false := bne_eq_false_iff_eq.mpr c25
                  clear c25
                  have H' := Aside0.mk H
                  clear H
                  go_wp2
                  go_meet
                  case rel => exact ⟨_, ((a0_1 == 10)), qq6, H', ⟨qqs⟩, ⟨bq BK101.out⟩, ⟨qS1 GE101 HB.out⟩⟩
                rw [if_neg c25] at H
                have c25b0 : (a0_1 == 10) = false := beq_eq_false_iff_ne.mpr c25
                have c25b1 : (a0_1 != 10) = true := bne_iff_ne.mpr c25
                by_cases c26 : a0_1 = 11
                rotate_left
                · rw [if_neg c26] at H
                  have c26b0 : (a0_1 == 11) = false := beq_eq_false_iff_ne.mpr c26
                  have c26b1 : (a0_1 != 11) = true := bne_iff_ne.mpr c26
                  have H' := Aside0.mk H
                  clear H
                  go_wp2
                  go_meet
                  case rel => exact ⟨_, ((a0_1 == 14)), qq6, H', ⟨qqs⟩, ⟨bq BK101.out⟩, ⟨qS1 GE101 HB.out⟩⟩
                rw [if_pos c26] at H
                have c26b0 : (a0_1 == 11) = true := beq_iff_eq.mpr c26
                have c26b1 : (a0_1 != 11) = false := bne_eq_false_iff_eq.mpr c26
                clear c26
                have H' := Aside0.mk H
                clear H
                go_wp2
                go_meet
                case rel => exact ⟨_, ((a0_1 == 11)), qq6, H', ⟨qqs⟩, ⟨bq BK101.out⟩, ⟨qS1 GE101 HB.out⟩⟩
              case rest =>
                clear HC21
                try clear c1
                try clear c2
                try clear p2
                try clear c4
                try clear c5
                try clear c8
                try clear c10
                try clear c10b0
                try clear c10b1
                try clear c12
                try clear c18
                try clear c18b0
                try clear c18b1
                try clear c23
                try clear c23b0
                try clear c23b1
                try clear c24
                try clear c24b0
                try clear c24b1
                try clear c25
                try clear c25b0
                try clear c25b1
                try clear c26
                try clear c26b0
                try clear c26b1
                try clear hcz14_0
                try clear hcz14_1
                try clear hcz14_2
                try clear hcz14_3
                try clear hcz14_4
                try clear hcz14_5
                try clear hcz15_0
                try clear hcz15_1
                try clear hcz15_2
                try clear hcz15_3
                try clear hcz15_4
                try clear hcz15_5
                try clear hcz16_0
                try clear hcz16_1
                try clear hcz16_2
                try clear hcz16_3
                try clear hcz16_4
                try clear hcz16_5
                try clear hcz19_0
                try clear hcz19_1
                try clear hcz19_2
                try clear hcz19_3
                try clear hcz19_4
                try clear hcz19_5
                try clear hcz20_0
                try clear hcz20_1
                try clear hcz20_2
                try clear hcz20_3
                try clear hcz20_4
                try clear hcz20_5
                try clear hcz22_0
                try clear hcz22_1
                try clear hcz22_2
                try clear hcz22_3
                try clear hcz22_4
                try clear hcz22_5
                try clear hcz6_0
                try clear hcz6_1
                try clear hcz6_2
                try clear hcz6_3
                try clear hcz6_4
                try clear hcz6_5
                try clear hcz7_0
                try clear hcz7_1
                try clear hcz7_2
                try clear hcz7_3
                try clear hcz7_4
                try clear hcz7_5
                try clear hfz14_0
                try clear hfz14_1
                try clear hfz14_2
                try clear hfz14_3
                try clear hfz14_4
                try clear hfz14_5
                try clear hfz15_0
                try clear hfz15_1
                try clear hfz15_2
                try clear hfz15_3
                try clear hfz15_4
                try clear hfz15_5
                try clear hfz16_0
                try clear hfz16_1
                try clear hfz16_2
                try clear hfz16_3
                try clear hfz16_4
                try clear hfz16_5
                try clear hfz19_0
                try clear hfz19_1
                try clear hfz19_2
                try clear hfz19_3
                try clear hfz19_4
                try clear hfz19_5
                try clear hfz20_0
                try clear hfz20_1
                try clear hfz20_2
                try clear hfz20_3
                try clear hfz20_4
                try clear hfz20_5
                try clear hfz22_0
                try clear hfz22_1
                try clear hfz22_2
                try clear hfz22_3
                try clear hfz22_4
                try clear hfz22_5
                try clear hfz6_0
                try clear hfz6_1
                try clear hfz6_2
                try clear hfz6_3
                try clear hfz6_4
                try clear hfz6_5
                try clear hfz7_0
                try clear hfz7_1
                try clear hfz7_2
                try clear hfz7_3
                try clear hfz7_4
                try clear hfz7_5
                try clear p2
                obtain ⟨kq, x38_20, rfl, HA, HJ20, BK101, HB⟩ := hcut
                cases kq with
                | zero => exact absurd HA.out (by simp [wire_Right.j3])
                | succ kj20 =>
                  have H := HA.out
                  clear HA
                  simp only [wire_Right.j3] at H
                  by_cases c27 : x38_20 = true
                  · subst c27
                    have H1 : (if x3_8 = true then ((wire_within.f a0_4 0 127).bind fun t105 => (some t105)) else (some false)) = some r := by rw [if_pos rfl] at H; exact H
                    clear H
                    have H := H1
                    clear H1
                    by_cases c28 : x3_8 = true
                    rotate_left
                    · replace c28 := Bool.eq_false_iff.mpr c28
                      subst c28
                      have H1 : (some false) = some r := by rw [if_neg (show ¬ (false = true) by decide)] at H; exact H
                      clear H
                      have H := H1
                      clear H1
                      obtain rfl := Option.some.inj H
                      go_wp2
                      go_ret
                      exact ⟨qq4, qS1 GE101 HB.out⟩
                    subst c28
                    have H1 : ((wire_within.f a0_4 0 127).bind fun t105 => (some t105)) = some r := by rw [if_pos rfl] at H; exact H
                    clear H
                    have H := H1
                    clear H1
                    replace H := Option.bind_eq_some_iff.mp H
                    obtain ⟨t105, A290, H⟩ := H
                    try dsimp -simprocs only at H
                    have A29 := Aside0.mk A290
                    clear A290
                    obtain rfl := Option.some.inj H
                    obtain ⟨hcz30_0, hcz30_1, hcz30_2, hcz30_3, hcz30_4, hcz30_5, hfz30_0, hfz30_1, hfz30_2, hfz30_3, hfz30_4, hfz30_5⟩ := blk6 BK101.out
                    go_wp2_with (first | (go_at_call 43; (with_reducible refine (wire_within.calls a0_4 0 127 t105 _ A29.out).mono ?_); rintro e w' ⟨rfl, ⟨nd, rfl⟩⟩))
                    go_ret
                    exact ⟨qq4, qS1 GE101 HB.out⟩
                  replace c27 := Bool.eq_false_iff.mpr c27
                  subst c27
                  have H1 : (if a0_1 = 12 then (wire_Right.j4 kj20 x3_8 x4_16 a0_1 (a0_1 == 12) a0_0 a0_1 a0_2 a0_3 a0_4 a0_5) else (wire_Right.j4 kj20 x3_8 x4_16 a0_1 (a0_1 == 13) a0_0 a0_1 a0_2 a0_3 a0_4 a0_5)) = some r := by rw [if_neg (show ¬ (false = true) by decide)] at H; exact H
                  clear H
                  have H := H1
                  clear H1
                  have HC31 := Aside0.mk H
                  clear H
                  go_upto_if 50 with (fail)
                  go_cut [50] (fun v50 wc => ∃ (kq : Nat) (x50_30 : Bool), v50 = .bool x50_30 ∧ Aside0 (wire_Right.j4 kq x3_8 x4_16 a0_1 x50_30 a0_0 a0_1 a0_2 a0_3 a0_4 a0_5 = some r) ∧ Aside0 (kq ≤ kj20) ∧ Aside0 (wc.heap[gb101]? = some (.cells #[.int .i64 a0_0, .int .i64 a0_1, .int .i64 a0_2, .int .i64 a0_3, .int .i64 a0_4, .string a0_5] 39 (0, 0))) ∧ Aside0 (Below w.heap.size w wc))
                  case first =>
                    have H := HC31.out
                    clear HC31
                    by_cases c32 : a0_1 = 12
                    rotate_left
                    · rw [if_neg c32] at H
                      have c32b0 : (a0_1 == 12) = false := beq_eq_false_iff_ne.mpr c32
                      have c32b1 : (a0_1 != 12) = true := bne_iff_ne.mpr c32
                      (first | rw [c32b0] | (simp only [i64_w, i32_w]; rw [c32b0]) | skip)
                      have H' := Aside0.mk H
                      clear H
                      go_wp2
                      go_meet
                      case rel => exact ⟨_, ((a0_1 == 13)), qq6, H', ⟨qqM⟩, ⟨bq BK101.out⟩, ⟨qS1 GE101 HB.out⟩⟩
                    rw [if_pos c32] at H
                    have c32b0 : (a0_1 == 12) = true := beq_iff_eq.mpr c32
                    have c32b1 : (a0_1 != 12) = false := bne_eq_false_iff_eq.mpr c32
                    clear c32
                    (first | rw [c32b0] | (simp only [i64_w, i32_w]; rw [c32b0]) | skip)
                    have H' := Aside0.mk H
                    clear H
                    go_wp2
                    go_meet
                    case rel => exact ⟨_, ((a0_1 == 12)), qq6, H', ⟨qqM⟩, ⟨bq BK101.out⟩, ⟨qS1 GE101 HB.out⟩⟩
                  case rest =>
                    clear HC31
                    try clear c1
                    try clear c2
                    try clear p2
                    try clear c3
                    try clear c4
                    try clear c5
                    try clear c8
                    try clear c10
                    try clear c10b0
                    try clear c10b1
                    try clear c12
                    try clear c18
                    try clear c18b0
                    try clear c18b1
                    try clear c23
                    try clear c23b0
                    try clear c23b1
                    try clear c24
                    try clear c24b0
                    try clear c24b1
                    try clear c25
                    try clear c25b0
                    try clear c25b1
                    try clear c26
                    try clear c26b0
                    try clear c26b1
                    try clear c27
                    try clear c28
                    try clear c32
                    try clear c32b0
                    try clear c32b1
                    try clear hcz14_0
                    try clear hcz14_1
                    try clear hcz14_2
                    try clear hcz14_3
                    try clear hcz14_4
                    try clear hcz14_5
                    try clear hcz15_0
                    try clear hcz15_1
                    try clear hcz15_2
                    try clear hcz15_3
                    try clear hcz15_4
                    try clear hcz15_5
                    try clear hcz16_0
                    try clear hcz16_1
                    try clear hcz16_2
                    try clear hcz16_3
                    try clear hcz16_4
                    try clear hcz16_5
                    try clear hcz19_0
                    try clear hcz19_1
                    try clear hcz19_2
                    try clear hcz19_3
                    try clear hcz19_4
                    try clear hcz19_5
                    try clear hcz20_0
                    try clear hcz20_1
                    try clear hcz20_2
                    try clear hcz20_3
                    try clear hcz20_4
                    try clear hcz20_5
                    try clear hcz22_0
                    try clear hcz22_1
                    try clear hcz22_2
                    try clear hcz22_3
                    try clear hcz22_4
                    try clear hcz22_5
                    try clear hcz30_0
                    try clear hcz30_1
                    try clear hcz30_2
                    try clear hcz30_3
                    try clear hcz30_4
                    try clear hcz30_5
                    try clear hcz6_0
                    try clear hcz6_1
                    try clear hcz6_2
                    try clear hcz6_3
                    try clear hcz6_4
                    try clear hcz6_5
                    try clear hcz7_0
                    try clear hcz7_1
                    try clear hcz7_2
                    try clear hcz7_3
                    try clear hcz7_4
                    try clear hcz7_5
                    try clear hfz14_0
                    try clear hfz14_1
                    try clear hfz14_2
                    try clear hfz14_3
                    try clear hfz14_4
                    try clear hfz14_5
                    try clear hfz15_0
                    try clear hfz15_1
                    try clear hfz15_2
                    try clear hfz15_3
                    try clear hfz15_4
                    try clear hfz15_5
                    try clear hfz16_0
                    try clear hfz16_1
                    try clear hfz16_2
                    try clear hfz16_3
                    try clear hfz16_4
                    try clear hfz16_5
                    try clear hfz19_0
                    try clear hfz19_1
                    try clear hfz19_2
                    try clear hfz19_3
                    try clear hfz19_4
                    try clear hfz19_5
                    try clear hfz20_0
                    try clear hfz20_1
                    try clear hfz20_2
                    try clear hfz20_3
                    try clear hfz20_4
                    try clear hfz20_5
                    try clear hfz22_0
                    try clear hfz22_1
                    try clear hfz22_2
                    try clear hfz22_3
                    try clear hfz22_4
                    try clear hfz22_5
                    try clear hfz30_0
                    try clear hfz30_1
                    try clear hfz30_2
                    try clear hfz30_3
                    try clear hfz30_4
                    try clear hfz30_5
                    try clear hfz6_0
                    try clear hfz6_1
                    try clear hfz6_2
                    try clear hfz6_3
                    try clear hfz6_4
                    try clear hfz6_5
                    try clear hfz7_0
                    try clear hfz7_1
                    try clear hfz7_2
                    try clear hfz7_3
                    try clear hfz7_4
                    try clear hfz7_5
                    try clear p2
                    obtain ⟨kq, x50_30, rfl, HA, HJ30, BK101, HB⟩ := hcut
                    cases kq with
                    | zero => exact absurd HA.out (by simp [wire_Right.j4])
                    | succ kj30 =>
                      have H := HA.out
                      clear HA
                      simp only [wire_Right.j4] at H
                      by_cases c33 : x50_30 = true
                      · subst c33
                        have H1 : (if x3_8 = true then (some (a0_4 == 0)) else (some false)) = some r := by rw [if_pos rfl] at H; exact H
                        clear H
                        have H := H1
                        clear H1
                        by_cases c34 : x3_8 = true
                        · subst c34
                          have H1 : (some (a0_4 == 0)) = some r := by rw [if_pos rfl] at H; exact H
                          clear H
                          have H := H1
                          clear H1
                          obtain rfl := Option.some.inj H
                          obtain ⟨hcz35_0, hcz35_1, hcz35_2, hcz35_3, hcz35_4, hcz35_5, hfz35_0, hfz35_1, hfz35_2, hfz35_3, hfz35_4, hfz35_5⟩ := blk6 BK101.out
                          go_wp2
                          go_ret
                          exact ⟨qq4, qS1 GE101 HB.out⟩
                        replace c34 := Bool.eq_false_iff.mpr c34
                        subst c34
                        have H1 : (some false) = some r := by rw [if_neg (show ¬ (false = true) by decide)] at H; exact H
                        clear H
                        have H := H1
                        clear H1
                        obtain rfl := Option.some.inj H
                        go_wp2
                        go_ret
                        exact ⟨qq4, qS1 GE101 HB.out⟩
                      replace c33 := Bool.eq_false_iff.mpr c33
                      subst c33
                      have H1 : (if a0_1 = 15 then (if x4_16 = true then (if a0_3 = 240 then (some true) else (some (a0_3 == 247))) else (some false)) else (if a0_1 = 16 then (if x4_16 = true then ((wire_within.f a0_3 0 127).bind fun t106 => (some t106)) else (some false)) else (some false))) = some r := by rw [if_neg (show ¬ (false = true) by decide)] at H; exact H
                      clear H
                      have H := H1
                      clear H1
                      by_cases c36 : a0_1 = 15
                      · rw [if_pos c36] at H
                        have c36b0 : (a0_1 == 15) = true := beq_iff_eq.mpr c36
                        have c36b1 : (a0_1 != 15) = false := bne_eq_false_iff_eq.mpr c36
                        clear c36
                        by_cases c37 : x4_16 = true
                        rotate_left
                        · replace c37 := Bool.eq_false_iff.mpr c37
                          subst c37
                          have H1 : (some false) = some r := by rw [if_neg (show ¬ (false = true) by decide)] at H; exact H
                          clear H
                          have H := H1
                          clear H1
                          obtain rfl := Option.some.inj H
                          go_wp2
                          go_ret
                          exact ⟨qq4, qS1 GE101 HB.out⟩
                        subst c37
                        have H1 : (if a0_3 = 240 then (some true) else (some (a0_3 == 247))) = some r := by rw [if_pos rfl] at H; exact H
                        clear H
                        have H := H1
                        clear H1
                        by_cases c38 : a0_3 = 240
                        rotate_left
                        · rw [if_neg c38] at H
                          have c38b0 : (a0_3 == 240) = false := beq_eq_false_iff_ne.mpr c38
                          have c38b1 : (a0_3 != 240) = true := bne_iff_ne.mpr c38
                          obtain rfl := Option.some.inj H
                          obtain ⟨hcz40_0, hcz40_1, hcz40_2, hcz40_3, hcz40_4, hcz40_5, hfz40_0, hfz40_1, hfz40_2, hfz40_3, hfz40_4, hfz40_5⟩ := blk6 BK101.out
                          go_wp2
                          go_ret
                          exact ⟨qq4, qS1 GE101 HB.out⟩
                        rw [if_pos c38] at H
                        have c38b0 : (a0_3 == 240) = true := beq_iff_eq.mpr c38
                        have c38b1 : (a0_3 != 240) = false := bne_eq_false_iff_eq.mpr c38
                        clear c38
                        obtain rfl := Option.some.inj H
                        obtain ⟨hcz39_0, hcz39_1, hcz39_2, hcz39_3, hcz39_4, hcz39_5, hfz39_0, hfz39_1, hfz39_2, hfz39_3, hfz39_4, hfz39_5⟩ := blk6 BK101.out
                        go_wp2
                        go_ret
                        exact ⟨qq4, qS1 GE101 HB.out⟩
                      rw [if_neg c36] at H
                      have c36b0 : (a0_1 == 15) = false := beq_eq_false_iff_ne.mpr c36
                      have c36b1 : (a0_1 != 15) = true := bne_iff_ne.mpr c36
                      by_cases c41 : a0_1 = 16
                      rotate_left
                      · rw [if_neg c41] at H
                        have c41b0 : (a0_1 == 16) = false := beq_eq_false_iff_ne.mpr c41
                        have c41b1 : (a0_1 != 16) = true := bne_iff_ne.mpr c41
                        obtain rfl := Option.some.inj H
                        go_wp2
                        go_ret
                        exact ⟨qq4, qS1 GE101 HB.out⟩
                      rw [if_pos c41] at H
                      have c41b0 : (a0_1 == 16) = true := beq_iff_eq.mpr c41
                      have c41b1 : (a0_1 != 16) = false := bne_eq_false_iff_eq.mpr c41
                      clear c41
                      by_cases c42 : x4_16 = true
                      rotate_left
                      · replace c42 := Bool.eq_false_iff.mpr c42
                        subst c42
                        have H1 : (some false) = some r := by rw [if_neg (show ¬ (false = true) by decide)] at H; exact H
                        clear H
                        have H := H1
                        clear H1
                        obtain rfl := Option.some.inj H
                        go_wp2
                        go_ret
                        exact ⟨qq4, qS1 GE101 HB.out⟩
                      subst c42
                      have H1 : ((wire_within.f a0_3 0 127).bind fun t106 => (some t106)) = some r := by rw [if_pos rfl] at H; exact H
                      clear H
                      have H := H1
                      clear H1
                      replace H := Option.bind_eq_some_iff.mp H
                      obtain ⟨t106, A430, H⟩ := H
                      try dsimp -simprocs only at H
                      have A43 := Aside0.mk A430
                      clear A430
                      obtain rfl := Option.some.inj H
                      obtain ⟨hcz44_0, hcz44_1, hcz44_2, hcz44_3, hcz44_4, hcz44_5, hfz44_0, hfz44_1, hfz44_2, hfz44_3, hfz44_4, hfz44_5⟩ := blk6 BK101.out
                      go_wp2_with (first | (go_at_call 43; (with_reducible refine (wire_within.calls a0_3 0 127 t106 _ A43.out).mono ?_); rintro e w' ⟨rfl, ⟨nd, rfl⟩⟩))
                      go_ret
                      exact ⟨qq4, qS1 GE101 HB.out⟩
def wire_number.part (b n : Int) : List Int := if b ≤ n then [n / b % 128 + 128] else []
def wire_number.num (n : Int) : List Int := wire_number.part 2097152 n ++ wire_number.part 16384 n ++ wire_number.part 128 n ++ [n % 128]
def wire_number.f (a0 : Int) : Option (List Int) := if 0 ≤ a0 then (if a0 ≤ 268435455 then (some (wire_number.num a0)) else (none)) else (none)
theorem info5t : (Tryd.prog.info? 5).map (fun i => (i.zero, i.size, i.bytes)) = some (some (.int .u8 0), 1, 1) := by kernel_rfl
def PartPost (base Bn Bo : Nat) (n : Int) (xs : List Value) (w w' : World) : Prop :=
  ∃ v : Value, w'.heap[Bo]? = some (.cells #[v] 56 (0, 0)) ∧ w'.heap[Bn]? = some (.cells #[.int .i64 n] 3 (0, 0)) ∧ w'.ownsRow base 5 1 v xs.length xs ∧ v.ownBlock ≠ some Bo ∧ v.ownBlock ≠ some Bn ∧ Below base w w' ∧ base ≤ w'.heap.size
theorem part_end {n : Int} {Bn Bo base gg cap : Nat} {v : Value} {xs : List Value} {w w1 : World} {x : Value}
    (hN : w.heap[Bn]? = some (.cells #[.int .i64 n] 3 (0, 0))) (hO : w.heap[Bo]? = some (.cells #[v] 56 (0, 0))) (hbase : base ≤ w.heap.size) (hbo : base ≤ Bo) (hown : w.ownsRow base 5 1 v xs.length xs)
    (ao : v.ownBlock ≠ some Bo) (an : v.ownBlock ≠ some Bn) (hno : Bn ≠ Bo)
    (hown1 : w1.ownsRow base 5 1 (.slice (some ⟨gg, 0, none⟩) (xs.length + 1) cap) (xs.length + 1) (xs ++ [x]))
    (hgrow : (w.alloc (.cells #[x] 5)).drew.grownBy w1 v.ownBlock) (hat : v.ownBlock = some gg ∨ gg = w.heap.size + 1) :
    PartPost base Bn Bo n (xs ++ [x]) w (w1.setCell ⟨Bo, 0, none⟩ (.slice (some ⟨gg, 0, none⟩) (xs.length + 1) cap)) := by
  have lo := lt_of_block hO
  have ln := lt_of_block hN
  have gO : gg ≠ Bo := by
    rcases hat with h | h
    · intro e; exact ao (by rw [h, e])
    · omega
  have gN : gg ≠ Bn := by
    rcases hat with h | h
    · intro e; exact an (by rw [h, e])
    · omega
  have bO1 : w1.heap[Bo]? = some (.cells #[v] 56 (0, 0)) := by
    rw [hgrow.block Bo (by simp; omega) (Ne.symm ao)]
    exact (Below.heap_alloc _ _ _ lo).trans hO
  have bN1 : w1.heap[Bn]? = some (.cells #[.int .i64 n] 3 (0, 0)) := by
    rw [hgrow.block Bn (by simp; omega) (Ne.symm an)]
    exact (Below.heap_alloc _ _ _ ln).trans hN
  have hB1 : Below base w w1 := (((Below.refl base w).alloc hbase _).drew).grown hgrow (by simp; omega) (fun k hk => own_base hown k hk)
  refine ⟨.slice (some ⟨gg, 0, none⟩) (xs.length + 1) cap, one_setCell bO1, ?_, ?_, ?_, ?_, ?_, ?_⟩
  · rw [Below.heap_setCell _ _ _ _ hno]; exact bN1
  · simpa using ownsRow_setCell_other hown1 (a := ⟨Bo, 0, none⟩) (by simpa [Value.ownBlock] using gO) _
  · simpa [Value.ownBlock] using gO
  · simpa [Value.ownBlock] using gN
  · exact hB1.setCell (p := ⟨Bo, 0, none⟩) hbo _
  · have := hB1.size; simp; omega
set_option maxRecDepth 100000 in
set_option maxHeartbeats 1600000 in
theorem part_yes (b n : Int) (Bn Bo base : Nat) (v : Value) (xs : List Value) (w : World) (hb0 : 1 ≤ b) (hb1 : b ≤ 2097152) (hn0 : 0 ≤ n) (hn1 : n ≤ 268435455) (hge : b ≤ n)
    (hN : w.heap[Bn]? = some (.cells #[.int .i64 n] 3 (0, 0))) (hO : w.heap[Bo]? = some (.cells #[v] 56 (0, 0)))
    (hown : w.ownsRow base 5 1 v xs.length xs) (hlen : xs.length ≤ 1000) (hbase : base ≤ w.heap.size)
    (ao : v.ownBlock ≠ some Bo) (an : v.ownBlock ≠ some Bn) (hno : Bn ≠ Bo) (hbo : base ≤ Bo) :
    Calls Tryd.prog 44 #[.int .i64 b, .pointer (some ⟨Bn, 0, none⟩), .pointer (some ⟨Bo, 0, none⟩)] w fun e w' => e = .returned (.tuple #[]) ∧ PartPost base Bn Bo n (xs ++ [.int .u8 (n / b % 128 + 128)]) w w' := by
  obtain ⟨i0, hi0, hz0, hz1, hz2⟩ := info_parts info5t
  have lo := lt_of_block hO
  have ln := lt_of_block hN
  have cN := cell_of_one hN
  have cO := cell_of_one hO
  have fO := free_of_one hO
  have hd : decide (b ≤ n) = true := decide_eq_true hge
  have hq0 : 0 ≤ n / b := Int.ediv_nonneg hn0 (by omega)
  have hm0 : 0 ≤ n / b % 128 := Int.emod_nonneg _ (by decide)
  have hm1 : n / b % 128 < 128 := Int.emod_lt_of_pos _ (by decide)
  have hs1 : IntKind.i64.wrap (n / b % 128 + 128) = n / b % 128 + 128 := IntWalk.i64_in _ (by omega)
  have hs2 : IntKind.u8.wrap (n / b % 128 + 128) = n / b % 128 + 128 := by rw [IntKind.wrap, if_neg (by simp [IntKind.signed])]; simp [IntKind.bits]; omega
  have hs3 : (n / b).tmod 128 = n / b % 128 := Int.tmod_eq_emod_of_nonneg hq0
  have hs4 : IntKind.i64.wrap (n.tdiv b) = n / b := by rw [Int.tdiv_eq_ediv_of_nonneg hn0]; exact IntWalk.i64_in _ (by have := Int.ediv_le_self b hn0; omega)
  have hbz : (b == 0) = false := beq_eq_false_iff_ne.mpr (by omega)
  have hbz' : ¬ b = 0 := by omega
  go_enter Tryd.func44, Tryd.ntmps44
  go_wp2_with fail
  go_region_law (refine step_append_lies _ (by rfl) _ _ _ (by rfl) base 5 i0 _ 1 1 Tryd.underlying56 hi0 hz0 hz1 hz2 rfl (by omega) v xs.length xs (by rfl) ((hown.alloc _).drew) ⟨w.heap.size, 0, none⟩ 1 1 [.int .u8 (n / b % 128 + 128)] (by rfl) (by rfl) (World.news_of_block (heap_alloc_new w _)) (by simp [Value.oneCell']) (by omega) (by unfold maxLen; omega) (by omega) (by simp; omega) (w.heap.size + 1) (by simp) ?_; intro gg cap w1 hown1 hgrow hat hlt; have c1 : w1.cell? ⟨Bo, 0, none⟩ = some v := (by rw [hgrow.cell_far _ (by simp; omega) (by simpa using Ne.symm ao)]; exact (World.cell?_alloc_lt _ _ _ lo).trans cO); have f1 : w1.frozen? ⟨Bo, 0, none⟩ = false := (by rw [hgrow.frozen_far _ (by simp; omega) (by simpa using Ne.symm ao)]; exact (frozen?_alloc_cells _ _ _ _).trans fO))
  all_goals
    refine bodyPost_end (results_none rfl _ _ _) rfl ?_
    exact ⟨rfl, part_end hN hO hbase hbo hown ao an hno hown1 hgrow hat⟩
set_option maxRecDepth 100000 in
theorem part_no (b n : Int) (Bn Bo : Nat) (w : World) (hge : n < b)
    (hN : w.heap[Bn]? = some (.cells #[.int .i64 n] 3 (0, 0))) :
    Calls Tryd.prog 44 #[.int .i64 b, .pointer (some ⟨Bn, 0, none⟩), .pointer (some ⟨Bo, 0, none⟩)] w fun e w' => e = .returned (.tuple #[]) ∧ w = w' := by
  have cN := cell_of_one hN
  have hd : decide (b ≤ n) = false := decide_eq_false (by omega)
  go_enter Tryd.func44, Tryd.ntmps44
  go_wp2_with fail
  go_end0
  exact ⟨rfl, rfl⟩
def partL (b n : Int) : List Value := if b ≤ n then [.int .u8 (n / b % 128 + 128)] else []
theorem partL_len (b n : Int) : (partL b n).length ≤ 1 := by unfold partL; split <;> simp
theorem part_any (b n : Int) (Bn Bo base : Nat) (v : Value) (xs : List Value) (w : World) (hb0 : 1 ≤ b) (hb1 : b ≤ 2097152) (hn0 : 0 ≤ n) (hn1 : n ≤ 268435455)
    (hN : w.heap[Bn]? = some (.cells #[.int .i64 n] 3 (0, 0))) (hO : w.heap[Bo]? = some (.cells #[v] 56 (0, 0)))
    (hown : w.ownsRow base 5 1 v xs.length xs) (hlen : xs.length ≤ 1000) (hbase : base ≤ w.heap.size)
    (ao : v.ownBlock ≠ some Bo) (an : v.ownBlock ≠ some Bn) (hno : Bn ≠ Bo) (hbo : base ≤ Bo) :
    Calls Tryd.prog 44 #[.int .i64 b, .pointer (some ⟨Bn, 0, none⟩), .pointer (some ⟨Bo, 0, none⟩)] w fun e w' => e = .returned (.tuple #[]) ∧ PartPost base Bn Bo n (xs ++ partL b n) w w' := by
  by_cases h : b ≤ n
  · unfold partL
    rw [if_pos h]
    exact part_yes b n Bn Bo base v xs w hb0 hb1 hn0 hn1 h hN hO hown hlen hbase ao an hno hbo
  · unfold partL
    rw [if_neg h, List.append_nil]
    refine (part_no b n Bn Bo w (by omega) hN).mono ?_
    rintro e w' ⟨rfl, rfl⟩
    exact ⟨rfl, v, hO, hN, hown, ao, an, Below.refl _ _, hbase⟩
def numV (n : Int) : List Value := partL 2097152 n ++ partL 16384 n ++ partL 128 n ++ [Value.int .u8 (n % 128)]
set_option maxRecDepth 100000 in
set_option maxHeartbeats 1600000 in
theorem number_any (n : Int) (w : World) (hn0 : 0 ≤ n) (hn1 : n ≤ 268435455) :
    Calls Tryd.prog 24 #[.int .i64 n] w fun e w' => ∃ v, e = .returned v ∧ w'.ownsRow w.heap.size 5 1 v (numV n).length (numV n) ∧ Below w.heap.size w w' := by
  obtain ⟨i0, hi0, hz0, hz1, hz2⟩ := info_parts info5t
  have hl1 := partL_len 2097152 n
  have hl2 := partL_len 16384 n
  have hl3 := partL_len 128 n
  have hm1 : 0 ≤ n % 128 := Int.emod_nonneg _ (by decide)
  have hm2 : n % 128 < 128 := Int.emod_lt_of_pos _ (by decide)
  have hs2 : IntKind.u8.wrap (n % 128) = n % 128 := by rw [IntKind.wrap, if_neg (by simp [IntKind.signed])]; simp [IntKind.bits]; omega
  have hs2' : n % 128 % 256 = n % 128 := by omega
  go_enter Tryd.func24, Tryd.ntmps24
  go_wp2_with fail
  refine (part_any 2097152 n w.heap.size (w.heap.size + 1) w.heap.size (.slice none 0 0) [] _ (by omega) (by omega) hn0 hn1 ?n1 ?o1 (own_nil _ _ _ _) (by simp) (by simp; omega) (by simp [Value.ownBlock]) (by simp [Value.ownBlock]) (by omega) (by omega)).mono ?_
  case n1 => rw [Below.heap_alloc _ _ _ (by simp)]; exact heap_alloc_new w _
  case o1 => simpa using heap_alloc_new (w.alloc (.cells #[.int .i64 n] 3)) (.cells #[.slice none 0 0] 56)
  rintro e w1 ⟨rfl, v1, hO1, hN1, ho1, ao1, an1, hB1, hs1⟩
  rw [List.nil_append] at ho1
  have HB1 : Hid (Below w.heap.size w w1) := Lib.hid ((((Below.refl _ w).alloc (Nat.le_refl _) _).alloc (by simp) _).trans hB1)
  clear hB1
  go_wp2_with fail
  refine (part_any 16384 n w.heap.size (w.heap.size + 1) w.heap.size v1 (partL 2097152 n) _ (by omega) (by omega) hn0 hn1 hN1 hO1 ho1 (by omega) hs1 ao1 an1 (by omega) (by omega)).mono ?_
  rintro e w2 ⟨rfl, v2, hO2, hN2, ho2, ao2, an2, hB2, hs2⟩
  have HB2 : Hid (Below w.heap.size w w2) := Lib.hid (HB1.out.trans hB2)
  clear hB2
  go_wp2_with fail
  refine (part_any 128 n w.heap.size (w.heap.size + 1) w.heap.size v2 (partL 2097152 n ++ partL 16384 n) _ (by omega) (by omega) hn0 hn1 hN2 hO2 ho2 (by simp; omega) hs2 ao2 an2 (by omega) (by omega)).mono ?_
  rintro e w3 ⟨rfl, v3, hO3, hN3, ho3, ao3, an3, hB3, hs3⟩
  have HB3 : Hid (Below w.heap.size w w3) := Lib.hid (HB2.out.trans hB3)
  clear hB3
  have cN := cell_of_one hN3
  have cO := cell_of_one hO3
  go_wp2_with (at_builtin; go_loud (refine print_append (w0 := w) w.heap.size rfl (.tmp 12) (.tmp 16) 56 5 (.int .u8 0) 1 rfl Tryd.underlying56 info5t rfl (by decide) v3 (partL 2097152 n ++ partL 16384 n ++ partL 128 n) (.int .u8 (n % 128)) rfl rfl rfl ?aO ?aB ?aS ?aL ?_); (case aO => exact ho3); (case aB => exact HB3.out); (case aS => exact hs3); (case aL => (simp; omega)); intro v4 w4 ho4 hb4 _ _)
  go_ret
  exact ⟨v4, rfl, ho4, hb4⟩
theorem partL_nums (b n : Int) : partL b n = nums .u8 (wire_number.part b n) := by
  unfold partL wire_number.part nums
  split <;> simp
theorem numV_nums (n : Int) : numV n = nums .u8 (wire_number.num n) := by
  unfold numV wire_number.num
  rw [nums_append, nums_append, nums_append, partL_nums, partL_nums, partL_nums]
  rfl
theorem wire_number.calls (a0 : Int) (r : List Int) (w : World) (h : wire_number.f a0 = some r) :
    Calls Tryd.prog 24 #[.int .i64 a0] w fun e w' => ∃ v0_ : Value, e = .returned (v0_) ∧ Kd.R (Kd.int .u8) 5 w' w.heap.size (fun _ => True) v0_ r ∧ Below w.heap.size w w' := by
  unfold wire_number.f at h
  by_cases h0 : 0 ≤ a0
  · by_cases h1 : a0 ≤ 268435455
    · rw [if_pos h0, if_pos h1] at h
      obtain rfl := Option.some.inj h
      refine (number_any a0 w h0 h1).mono ?_
      rintro e w' ⟨v, rfl, ho, hb⟩
      rw [numV_nums, nums_length] at ho
      exact ⟨v, rfl, Kd.R_of_own (enc := Value.int .u8) (h1 := fun _ => rfl) (ok := fun _ => True) ho (fun _ _ => trivial), hb⟩
    · rw [if_pos h0, if_neg h1] at h
      cases h
  · rw [if_neg h0] at h
    cases h
def wire_one.f (a0 : Int) : Option (Bool) := if a0 = 12 then (some true) else (some (a0 == 13))
set_option maxHeartbeats 8000000 in
set_option maxRecDepth 100000 in
theorem wire_one.calls (a0 : Int) (r : Bool) (w : World) (h : wire_one.f a0 = some r) :
    Calls Tryd.prog 25 #[.int .i64 a0] w fun e w' => e = .returned (.bool r) ∧ Drawn0 w w' := by
  have H := h
  unfold wire_one.f at H
  clear h
  by_cases c2 : a0 = 12
  · rw [if_pos c2] at H
    have c2b0 : (a0 == 12) = true := beq_iff_eq.mpr c2
    have c2b1 : (a0 != 12) = false := bne_eq_false_iff_eq.mpr c2
    clear c2
    obtain rfl := Option.some.inj H
    go_enter Tryd.func25, Tryd.ntmps25
    go_wp2
    go_ret
    exact ⟨qq6, qq9⟩
  · rw [if_neg c2] at H
    have c2b0 : (a0 == 12) = false := beq_eq_false_iff_ne.mpr c2
    have c2b1 : (a0 != 12) = true := bne_iff_ne.mpr c2
    obtain rfl := Option.some.inj H
    go_enter Tryd.func25, Tryd.ntmps25
    go_wp2
    go_ret
    exact ⟨qq6, qq9⟩
def wire_Encode.l0 : Nat → List Int → Int → List (S39) → Int → Int → Option (ByteArray × Int)
  | 0, _, _, _, _, _ => none
  | k + 1, x4, x5, x9, x10, x11 => if x11 < x10 then (if 0 ≤ x11 then (if x11 < (x9.length : Int) then ((wire_Right.f k ((rd_T39 x9 x11).f0) ((rd_T39 x9 x11).f1) ((rd_T39 x9 x11).f2) ((rd_T39 x9 x11).f3) ((rd_T39 x9 x11).f4) ((rd_T39 x9 x11).f5)).bind fun t103 => (if t103 = true then ((wire_number.f ((rd_T39 x9 x11).f0)).bind fun t104 => (if x4.length + t104.length < 140737488355328 then ((some (x4 ++ t104 : List Int)).bind fun y107 => (if ((rd_T39 x9 x11).f1) = 16 then (if y107.length < 140737488355328 then ((some (y107 ++ [255] : List Int)).bind fun y110 => (if y110.length < 140737488355328 then ((some (y110 ++ [((rd_T39 x9 x11).f3) % 256] : List Int)).bind fun y113 => ((wire_number.f (((rd_T39 x9 x11).f5).size : Int)).bind fun t116 => (if y113.length + t116.length < 140737488355328 then ((some (y113 ++ t116 : List Int)).bind fun y119 => (if y119.length + ((rd_T39 x9 x11).f5).size < 140737488355328 then (wire_Encode.l0 k (y119 ++ bytesOf ((rd_T39 x9 x11).f5)) 0 x9 x10 (wrap64 (x11 + 1))) else (none))) else (none)))) else (none))) else (none)) else (if ((rd_T39 x9 x11).f1) = 15 then (if y107.length < 140737488355328 then ((some (y107 ++ [((rd_T39 x9 x11).f3) % 256] : List Int)).bind fun y125 => ((wire_number.f (((rd_T39 x9 x11).f5).size : Int)).bind fun t128 => (if y125.length + t128.length < 140737488355328 then ((some (y125 ++ t128 : List Int)).bind fun y131 => (if y131.length + ((rd_T39 x9 x11).f5).size < 140737488355328 then (wire_Encode.l0 k (y131 ++ bytesOf ((rd_T39 x9 x11).f5)) 0 x9 x10 (wrap64 (x11 + 1))) else (none))) else (none)))) else (none)) else (if (wrap64 ((wrap64 (16 * ((rd_T39 x9 x11).f1))) + ((rd_T39 x9 x11).f2))) = x5 then (if y107.length < 140737488355328 then ((some (y107 ++ [((rd_T39 x9 x11).f3) % 256] : List Int)).bind fun y137 => ((wire_one.f ((rd_T39 x9 x11).f1)).bind fun t140 => (if t140 = true then (wire_Encode.l0 k y137 (wrap64 ((wrap64 (16 * ((rd_T39 x9 x11).f1))) + ((rd_T39 x9 x11).f2))) x9 x10 (wrap64 (x11 + 1))) else (if y137.length < 140737488355328 then (wire_Encode.l0 k (y137 ++ [((rd_T39 x9 x11).f4) % 256]) (wrap64 ((wrap64 (16 * ((rd_T39 x9 x11).f1))) + ((rd_T39 x9 x11).f2))) x9 x10 (wrap64 (x11 + 1))) else (none))))) else (none)) else (if y107.length < 140737488355328 then ((some (y107 ++ [(wrap64 ((wrap64 (16 * ((rd_T39 x9 x11).f1))) + ((rd_T39 x9 x11).f2))) % 256] : List Int)).bind fun y144 => (if y144.length < 140737488355328 then ((some (y144 ++ [((rd_T39 x9 x11).f3) % 256] : List Int)).bind fun y147 => ((wire_one.f ((rd_T39 x9 x11).f1)).bind fun t150 => (if t150 = true then (wire_Encode.l0 k y147 (wrap64 ((wrap64 (16 * ((rd_T39 x9 x11).f1))) + ((rd_T39 x9 x11).f2))) x9 x10 (wrap64 (x11 + 1))) else (if y147.length < 140737488355328 then (wire_Encode.l0 k (y147 ++ [((rd_T39 x9 x11).f4) % 256]) (wrap64 ((wrap64 (16 * ((rd_T39 x9 x11).f1))) + ((rd_T39 x9 x11).f2))) x9 x10 (wrap64 (x11 + 1))) else (none))))) else (none))) else (none)))))) else (none))) else (some ((⟨#[]⟩ : ByteArray), 151)))) else (none)) else (none)) else (some (strOfNums x4, 0))
def wire_Encode.f (k : Nat) (l0 : List (S39)) : Option (ByteArray × Int) := wire_Encode.l0 k ([] : List Int) 0 l0 (l0.length : Int) 0
theorem wire_Encode.mono_l : ∀ k, (∀ y0 y1 y2 y3 y4, LeO (wire_Encode.l0 k y0 y1 y2 y3 y4) (wire_Encode.l0 (k + 1) y0 y1 y2 y3 y4))
  | 0 => fun _ _ _ _ _ r h => by simp [wire_Encode.l0] at h
  | k + 1 => by
    have ih0 := wire_Encode.mono_l k
    · intro y0 y1 y2 y3 y4
      unfold wire_Encode.l0
      repeat' first
      | (with_reducible exact ih0 _ _ _ _ _)
      | (with_reducible exact wire_Right.mono _ _ _ _ _ _ _)
      | (with_reducible exact LeO.refl _)
      | (with_reducible exact LeO.none _)
      | (with_reducible refine LeO.ite ?_ ?_)
      | (with_reducible refine LeO.bind ?_ (fun _ => ?_))
      | exact ih0 _ _ _ _ _
      | exact wire_Right.mono _ _ _ _ _ _ _
      | exact LeO.none _
      | refine LeO.ite ?_ ?_
      | refine LeO.bind ?_ (fun _ => ?_)
theorem wire_Encode.mono : ∀ a0 k, LeO (wire_Encode.f k a0) (wire_Encode.f (k + 1) a0) := by
  intro a0 k
  have ih0 := wire_Encode.mono_l k
  unfold wire_Encode.f
  repeat' first
      | (with_reducible exact ih0 _ _ _ _ _)
      | (with_reducible exact wire_Right.mono _ _ _ _ _ _ _)
      | (with_reducible exact LeO.refl _)
      | (with_reducible exact LeO.none _)
      | (with_reducible refine LeO.ite ?_ ?_)
      | (with_reducible refine LeO.bind ?_ (fun _ => ?_))
      | exact ih0 _ _ _ _ _
      | exact wire_Right.mono _ _ _ _ _ _ _
      | exact LeO.none _
      | refine LeO.ite ?_ ?_
      | refine LeO.bind ?_ (fun _ => ?_)
set_option maxHeartbeats 8000000 in
set_option maxRecDepth 100000 in
theorem wire_Encode.calls (k : Nat) (A0 : Option Addr) (c0 : Nat) (l0 : List (S39)) (r1 : ByteArray) (r2 : Int) (w : World) (hr0 : Kd.C k39 w A0 l0.length l0) (hc0 : l0.length ≤ c0) (h : wire_Encode.f k l0 = some (r1, r2)) :
    Calls Tryd.prog 11 #[.slice A0 l0.length c0] w fun e w' => e = .returned (.tuple #[.string r1, .int .i64 r2]) ∧ Below w.heap.size w w' := by
  have hu39 := Tryd.underlying39
  have HR0 := Aside0.mk hr0
  have HC0 := Aside0.mk hc0
  clear hr0 hc0
  have HB := Aside0.mk (Below.refl w.heap.size w)
  have H := h
  unfold wire_Encode.f at H
  clear h
  have H' := Aside0.mk H
  clear H
  go_enter Tryd.func11, Tryd.ntmps11
  go_wp2
  go_loopg [4, 5, 11] k (fun kq v4 v5 v11 w' => ∃ (x4_1 : List Int) (x5_1 : Int) (x11_1 : Int), v5 = .int .i64 x5_1 ∧ v11 = .int .i64 x11_1 ∧ Aside0 (wire_Encode.l0 kq x4_1 x5_1 l0 (l0.length : Int) x11_1 = some (r1, r2)) ∧ Aside0 (kq ≤ k) ∧ Aside0 (Kd.R (Kd.int .u8) 5 w' w.heap.size (fun _ => True) v4 x4_1) ∧ Aside0 (Below w.heap.size w w'))
  case atStart => exact ⟨(([] : List Int)), (0), (0), qq6, qq6, H', ⟨Nat.le_refl _⟩, ⟨qqy⟩, ⟨qB HB.out⟩⟩
  case round =>
    clear H'
    try clear c1
    obtain ⟨x4_1, x5_1, x11_1, rfl, rfl, HA, HK1, HO_4, HB⟩ := hrel
    cases gk with
    | zero => exact absurd HA.out (by simp [wire_Encode.l0])
    | succ k1 =>
      have H := HA.out
      clear HA
      simp only [wire_Encode.l0] at H
      by_cases c2 : x11_1 < (l0.length : Int)
      rotate_left
      · rw [if_neg c2] at H
        have c2b0 : decide (x11_1 < (l0.length : Int)) = false := decide_eq_false c2
        clear c2
        simp only [Option.some.injEq, Prod.mk.injEq] at H
        obtain ⟨rfl, rfl⟩ := H
        have hcv111 := own_string (P := Tryd.prog) Tryd.underlying56 Tryd.underlying5 Tryd.underlying9 (Kd.own_of_R HO_4.out)
        go_wp2
        go_ret2
        exact ⟨qq4, qB HB.out⟩
      rw [if_pos c2] at H
      have c2b0 : decide (x11_1 < (l0.length : Int)) = true := decide_eq_true c2
      clear c2
      by_cases c3 : 0 ≤ x11_1
      rotate_left
      · rw [if_neg c3] at H
        exact absurd H (by simp)
      rw [if_pos c3] at H
      have c3b0 : decide (0 ≤ x11_1) = true := decide_eq_true c3
      clear c3
      by_cases c4 : x11_1 < (l0.length : Int)
      rotate_left
      · rw [if_neg c4] at H
        exact absurd H (by simp)
      rw [if_pos c4] at H
      have c4b0 : decide (x11_1 < (l0.length : Int)) = true := decide_eq_true c4
      clear c4
      replace H := Option.bind_eq_some_iff.mp H
      obtain ⟨t103, A50, H⟩ := H
      try dsimp -simprocs only at H
      have A5 := Aside0.mk A50
      clear A50
      by_cases c6 : t103 = true
      rotate_left
      · replace c6 := Bool.eq_false_iff.mpr c6
        subst c6
        have H1 : (some ((⟨#[]⟩ : ByteArray), 151)) = some (r1, r2) := by rw [if_neg (show ¬ (false = true) by decide)] at H; exact H
        clear H
        have H := H1
        clear H1
        simp only [Option.some.injEq, Prod.mk.injEq] at H
        obtain ⟨rfl, rfl⟩ := H
        have p101 : 0 ≤ (x11_1 : Int) := of_decide_eq_true qq3
        have q101 : x11_1 < (l0.length : Int) := of_decide_eq_true qq3
        obtain ⟨ad101, e101, hx101_0, hx101_1, hx101_2, hx101_3, hx101_4, hx101_5⟩ := at_T39 HR0.out x11_1 p101 q101
        cases e101
        replace hx101_0 := (HB.out.cell (World.block_lt_of_cell? w _ hx101_0)).trans hx101_0
        replace hx101_1 := (HB.out.cell (World.block_lt_of_cell? w _ hx101_1)).trans hx101_1
        replace hx101_2 := (HB.out.cell (World.block_lt_of_cell? w _ hx101_2)).trans hx101_2
        replace hx101_3 := (HB.out.cell (World.block_lt_of_cell? w _ hx101_3)).trans hx101_3
        replace hx101_4 := (HB.out.cell (World.block_lt_of_cell? w _ hx101_4)).trans hx101_4
        replace hx101_5 := (HB.out.cell (World.block_lt_of_cell? w _ hx101_5)).trans hx101_5
        replace p101 := eq_true p101
        replace q101 := eq_true q101
        go_wp2_with (first | ((with_reducible refine gate_dst (N := 7) rfl ?_); refine box_event ?hg (N := 7) ?hd (cs := #[.int .i64 0, .int .i64 0, .int .i64 0, .int .i64 0, .int .i64 0, .string (⟨#[]⟩ : ByteArray)]) (t := 39) ?hr ?_; (case hd => rfl); (case hg => rfl); (case hr => exact qq8); intro gb102 hg w108 hbox hb; replace HO_4 := Aside0.mk (Kd.R_below (qR HO_4.out) hb); have BK102 := Aside0.mk (hbox); have GW102 := Aside0.mk ((qq7 : w.heap.size ≤ gb102)); have GE102 := Aside0.mk ((qq7 : w.heap.size ≤ gb102)); replace HB := Aside0.mk (below_step (qB HB.out) hb); clear hb hbox hg; obtain ⟨hcz109_0, hcz109_1, hcz109_2, hcz109_3, hcz109_4, hcz109_5, hfz109_0, hfz109_1, hfz109_2, hfz109_3, hfz109_4, hfz109_5⟩ := blk6 BK102.out) | ((with_reducible refine gate_callee (f := 23) rfl ?_); refine goesL_ (some 16) rfl rfl Tryd.func23 (by kernel_rfl) rfl #[.agg #[.int .i64 ((rd_T39 l0 x11_1).f0), .int .i64 ((rd_T39 l0 x11_1).f1), .int .i64 ((rd_T39 l0 x11_1).f2), .int .i64 ((rd_T39 l0 x11_1).f3), .int .i64 ((rd_T39 l0 x11_1).f4), .string ((rd_T39 l0 x11_1).f5)]] rfl qq0 ?_; (with_reducible refine (wire_Right.calls k1 ((rd_T39 l0 x11_1).f0) ((rd_T39 l0 x11_1).f1) ((rd_T39 l0 x11_1).f2) ((rd_T39 l0 x11_1).f3) ((rd_T39 l0 x11_1).f4) ((rd_T39 l0 x11_1).f5) false _ A5.out).mono ?_); rintro e w110 ⟨rfl, hb⟩; refine ⟨_, rfl, ?_⟩; replace HO_4 := Aside0.mk (Kd.R_below qq5 hb); replace BK102 := Aside0.mk (blk_below (g := gb102) (o := .cells #[.int .i64 ((rd_T39 l0 x11_1).f0), .int .i64 ((rd_T39 l0 x11_1).f1), .int .i64 ((rd_T39 l0 x11_1).f2), .int .i64 ((rd_T39 l0 x11_1).f3), .int .i64 ((rd_T39 l0 x11_1).f4), .string ((rd_T39 l0 x11_1).f5)] 39 (0, 0)) (by refine bq ?_; refine blk_put (cs := #[.int .i64 ((rd_T39 l0 x11_1).f0), .int .i64 ((rd_T39 l0 x11_1).f1), .int .i64 ((rd_T39 l0 x11_1).f2), .int .i64 ((rd_T39 l0 x11_1).f3), .int .i64 ((rd_T39 l0 x11_1).f4), .string (⟨#[]⟩ : ByteArray)]) ?_ 5 _ rfl; refine bq ?_; refine blk_put (cs := #[.int .i64 ((rd_T39 l0 x11_1).f0), .int .i64 ((rd_T39 l0 x11_1).f1), .int .i64 ((rd_T39 l0 x11_1).f2), .int .i64 ((rd_T39 l0 x11_1).f3), .int .i64 0, .string (⟨#[]⟩ : ByteArray)]) ?_ 4 _ rfl; refine bq ?_; refine blk_put (cs := #[.int .i64 ((rd_T39 l0 x11_1).f0), .int .i64 ((rd_T39 l0 x11_1).f1), .int .i64 ((rd_T39 l0 x11_1).f2), .int .i64 0, .int .i64 0, .string (⟨#[]⟩ : ByteArray)]) ?_ 3 _ rfl; refine bq ?_; refine blk_put (cs := #[.int .i64 ((rd_T39 l0 x11_1).f0), .int .i64 ((rd_T39 l0 x11_1).f1), .int .i64 0, .int .i64 0, .int .i64 0, .string (⟨#[]⟩ : ByteArray)]) ?_ 2 _ rfl; refine bq ?_; refine blk_put (cs := #[.int .i64 ((rd_T39 l0 x11_1).f0), .int .i64 0, .int .i64 0, .int .i64 0, .int .i64 0, .string (⟨#[]⟩ : ByteArray)]) ?_ 1 _ rfl; refine bq ?_; refine blk_put (cs := #[.int .i64 0, .int .i64 0, .int .i64 0, .int .i64 0, .int .i64 0, .string (⟨#[]⟩ : ByteArray)]) ?_ 0 _ rfl; exact bq BK102.out) hb); replace HB := Aside0.mk (below_step (qS1 GE102 HB.out) hb); (try clear hb); (try clear hb2); (try clear hk); (try clear hi)))
        go_ret2
        exact ⟨qq4, qS1 GE102 HB.out⟩
      subst c6
      have H1 : ((wire_number.f ((rd_T39 l0 x11_1).f0)).bind fun t104 => (if x4_1.length + t104.length < 140737488355328 then ((some (x4_1 ++ t104 : List Int)).bind fun y107 => (if ((rd_T39 l0 x11_1).f1) = 16 then (if y107.length < 140737488355328 then ((some (y107 ++ [255] : List Int)).bind fun y110 => (if y110.length < 140737488355328 then ((some (y110 ++ [((rd_T39 l0 x11_1).f3) % 256] : List Int)).bind fun y113 => ((wire_number.f (((rd_T39 l0 x11_1).f5).size : Int)).bind fun t116 => (if y113.length + t116.length < 140737488355328 then ((some (y113 ++ t116 : List Int)).bind fun y119 => (if y119.length + ((rd_T39 l0 x11_1).f5).size < 140737488355328 then (wire_Encode.l0 k1 (y119 ++ bytesOf ((rd_T39 l0 x11_1).f5)) 0 l0 (l0.length : Int) (wrap64 (x11_1 + 1))) else (none))) else (none)))) else (none))) else (none)) else (if ((rd_T39 l0 x11_1).f1) = 15 then (if y107.length < 140737488355328 then ((some (y107 ++ [((rd_T39 l0 x11_1).f3) % 256] : List Int)).bind fun y125 => ((wire_number.f (((rd_T39 l0 x11_1).f5).size : Int)).bind fun t128 => (if y125.length + t128.length < 140737488355328 then ((some (y125 ++ t128 : List Int)).bind fun y131 => (if y131.length + ((rd_T39 l0 x11_1).f5).size < 140737488355328 then (wire_Encode.l0 k1 (y131 ++ bytesOf ((rd_T39 l0 x11_1).f5)) 0 l0 (l0.length : Int) (wrap64 (x11_1 + 1))) else (none))) else (none)))) else (none)) else (if (wrap64 ((wrap64 (16 * ((rd_T39 l0 x11_1).f1))) + ((rd_T39 l0 x11_1).f2))) = x5_1 then (if y107.length < 140737488355328 then ((some (y107 ++ [((rd_T39 l0 x11_1).f3) % 256] : List Int)).bind fun y137 => ((wire_one.f ((rd_T39 l0 x11_1).f1)).bind fun t140 => (if t140 = true then (wire_Encode.l0 k1 y137 (wrap64 ((wrap64 (16 * ((rd_T39 l0 x11_1).f1))) + ((rd_T39 l0 x11_1).f2))) l0 (l0.length : Int) (wrap64 (x11_1 + 1))) else (if y137.length < 140737488355328 then (wire_Encode.l0 k1 (y137 ++ [((rd_T39 l0 x11_1).f4) % 256]) (wrap64 ((wrap64 (16 * ((rd_T39 l0 x11_1).f1))) + ((rd_T39 l0 x11_1).f2))) l0 (l0.length : Int) (wrap64 (x11_1 + 1))) else (none))))) else (none)) else (if y107.length < 140737488355328 then ((some (y107 ++ [(wrap64 ((wrap64 (16 * ((rd_T39 l0 x11_1).f1))) + ((rd_T39 l0 x11_1).f2))) % 256] : List Int)).bind fun y144 => (if y144.length < 140737488355328 then ((some (y144 ++ [((rd_T39 l0 x11_1).f3) % 256] : List Int)).bind fun y147 => ((wire_one.f ((rd_T39 l0 x11_1).f1)).bind fun t150 => (if t150 = true then (wire_Encode.l0 k1 y147 (wrap64 ((wrap64 (16 * ((rd_T39 l0 x11_1).f1))) + ((rd_T39 l0 x11_1).f2))) l0 (l0.length : Int) (wrap64 (x11_1 + 1))) else (if y147.length < 140737488355328 then (wire_Encode.l0 k1 (y147 ++ [((rd_T39 l0 x11_1).f4) % 256]) (wrap64 ((wrap64 (16 * ((rd_T39 l0 x11_1).f1))) + ((rd_T39 l0 x11_1).f2))) l0 (l0.length : Int) (wrap64 (x11_1 + 1))) else (none))))) else (none))) else (none)))))) else (none))) = some (r1, r2) := by rw [if_pos rfl] at H; exact H
      clear H
      have H := H1
      clear H1
      replace H := Option.bind_eq_some_iff.mp H
      obtain ⟨t104, A70, H⟩ := H
      try dsimp -simprocs only at H
      have A7 := Aside0.mk A70
      clear A70
      by_cases c8 : x4_1.length + t104.length < 140737488355328
      rotate_left
      · rw [if_neg c8] at H
        exact absurd H (by simp)
      rw [if_pos c8] at H
      have LMc8 := Aside0.mk c8
      clear c8
      obtain ⟨y107, hy107⟩ : ∃ y_ : List Int, y_ = (x4_1 ++ t104) := ⟨_, rfl⟩
      replace H : (if ((rd_T39 l0 x11_1).f1) = 16 then (if y107.length < 140737488355328 then ((some (y107 ++ [255] : List Int)).bind fun y110 => (if y110.length < 140737488355328 then ((some (y110 ++ [((rd_T39 l0 x11_1).f3) % 256] : List Int)).bind fun y113 => ((wire_number.f (((rd_T39 l0 x11_1).f5).size : Int)).bind fun t116 => (if y113.length + t116.length < 140737488355328 then ((some (y113 ++ t116 : List Int)).bind fun y119 => (if y119.length + ((rd_T39 l0 x11_1).f5).size < 140737488355328 then (wire_Encode.l0 k1 (y119 ++ bytesOf ((rd_T39 l0 x11_1).f5)) 0 l0 (l0.length : Int) (wrap64 (x11_1 + 1))) else (none))) else (none)))) else (none))) else (none)) else (if ((rd_T39 l0 x11_1).f1) = 15 then (if y107.length < 140737488355328 then ((some (y107 ++ [((rd_T39 l0 x11_1).f3) % 256] : List Int)).bind fun y125 => ((wire_number.f (((rd_T39 l0 x11_1).f5).size : Int)).bind fun t128 => (if y125.length + t128.length < 140737488355328 then ((some (y125 ++ t128 : List Int)).bind fun y131 => (if y131.length + ((rd_T39 l0 x11_1).f5).size < 140737488355328 then (wire_Encode.l0 k1 (y131 ++ bytesOf ((rd_T39 l0 x11_1).f5)) 0 l0 (l0.length : Int) (wrap64 (x11_1 + 1))) else (none))) else (none)))) else (none)) else (if (wrap64 ((wrap64 (16 * ((rd_T39 l0 x11_1).f1))) + ((rd_T39 l0 x11_1).f2))) = x5_1 then (if y107.length < 140737488355328 then ((some (y107 ++ [((rd_T39 l0 x11_1).f3) % 256] : List Int)).bind fun y137 => ((wire_one.f ((rd_T39 l0 x11_1).f1)).bind fun t140 => (if t140 = true then (wire_Encode.l0 k1 y137 (wrap64 ((wrap64 (16 * ((rd_T39 l0 x11_1).f1))) + ((rd_T39 l0 x11_1).f2))) l0 (l0.length : Int) (wrap64 (x11_1 + 1))) else (if y137.length < 140737488355328 then (wire_Encode.l0 k1 (y137 ++ [((rd_T39 l0 x11_1).f4) % 256]) (wrap64 ((wrap64 (16 * ((rd_T39 l0 x11_1).f1))) + ((rd_T39 l0 x11_1).f2))) l0 (l0.length : Int) (wrap64 (x11_1 + 1))) else (none))))) else (none)) else (if y107.length < 140737488355328 then ((some (y107 ++ [(wrap64 ((wrap64 (16 * ((rd_T39 l0 x11_1).f1))) + ((rd_T39 l0 x11_1).f2))) % 256] : List Int)).bind fun y144 => (if y144.length < 140737488355328 then ((some (y144 ++ [((rd_T39 l0 x11_1).f3) % 256] : List Int)).bind fun y147 => ((wire_one.f ((rd_T39 l0 x11_1).f1)).bind fun t150 => (if t150 = true then (wire_Encode.l0 k1 y147 (wrap64 ((wrap64 (16 * ((rd_T39 l0 x11_1).f1))) + ((rd_T39 l0 x11_1).f2))) l0 (l0.length : Int) (wrap64 (x11_1 + 1))) else (if y147.length < 140737488355328 then (wire_Encode.l0 k1 (y147 ++ [((rd_T39 l0 x11_1).f4) % 256]) (wrap64 ((wrap64 (16 * ((rd_T39 l0 x11_1).f1))) + ((rd_T39 l0 x11_1).f2))) l0 (l0.length : Int) (wrap64 (x11_1 + 1))) else (none))))) else (none))) else (none))))) = some (r1, r2) := by first | (rw [hy107]; with_reducible exact H) | (have H2_ := (Option.bind_some _ _).symm.trans H; rw [hy107]; with_reducible exact H2_) | (have H2_ := (Option.bind_some _ _).symm.trans H; with_reducible exact H2_) | with_reducible exact H | (rw [hy107]; exact H) | exact H
      have Ny107 := Aside0.mk hy107
      clear hy107
      by_cases c9 : ((rd_T39 l0 x11_1).f1) = 16
      · rw [if_pos c9] at H
        have c9b0 : (((rd_T39 l0 x11_1).f1) == 16) = true := beq_iff_eq.mpr c9
        have c9b1 : (((rd_T39 l0 x11_1).f1) != 16) = false := bne_eq_false_iff_eq.mpr c9
        clear c9
        by_cases c10 : y107.length < 140737488355328
        rotate_left
        · rw [if_neg c10] at H
          exact absurd H (by simp)
        rw [if_pos c10] at H
        have LMc10 := Aside0.mk c10
        clear c10
        obtain ⟨y110, hy110⟩ : ∃ y_ : List Int, y_ = (y107 ++ [255]) := ⟨_, rfl⟩
        replace H : (if y110.length < 140737488355328 then ((some (y110 ++ [((rd_T39 l0 x11_1).f3) % 256] : List Int)).bind fun y113 => ((wire_number.f (((rd_T39 l0 x11_1).f5).size : Int)).bind fun t116 => (if y113.length + t116.length < 140737488355328 then ((some (y113 ++ t116 : List Int)).bind fun y119 => (if y119.length + ((rd_T39 l0 x11_1).f5).size < 140737488355328 then (wire_Encode.l0 k1 (y119 ++ bytesOf ((rd_T39 l0 x11_1).f5)) 0 l0 (l0.length : Int) (wrap64 (x11_1 + 1))) else (none))) else (none)))) else (none)) = some (r1, r2) := by first | (rw [hy110]; with_reducible exact H) | (have H2_ := (Option.bind_some _ _).symm.trans H; rw [hy110]; with_reducible exact H2_) | (have H2_ := (Option.bind_some _ _).symm.trans H; with_reducible exact H2_) | with_reducible exact H | (rw [hy110]; exact H) | exact H
        have Ny110 := Aside0.mk hy110
        clear hy110
        by_cases c11 : y110.length < 140737488355328
        rotate_left
        · rw [if_neg c11] at H
          exact absurd H (by simp)
        rw [if_pos c11] at H
        have LMc11 := Aside0.mk c11
        clear c11
        obtain ⟨y113, hy113⟩ : ∃ y_ : List Int, y_ = (y110 ++ [((rd_T39 l0 x11_1).f3) % 256]) := ⟨_, rfl⟩
        replace H : ((wire_number.f (((rd_T39 l0 x11_1).f5).size : Int)).bind fun t116 => (if y113.length + t116.length < 140737488355328 then ((some (y113 ++ t116 : List Int)).bind fun y119 => (if y119.length + ((rd_T39 l0 x11_1).f5).size < 140737488355328 then (wire_Encode.l0 k1 (y119 ++ bytesOf ((rd_T39 l0 x11_1).f5)) 0 l0 (l0.length : Int) (wrap64 (x11_1 + 1))) else (none))) else (none))) = some (r1, r2) := by first | (rw [hy113]; with_reducible exact H) | (have H2_ := (Option.bind_some _ _).symm.trans H; rw [hy113]; with_reducible exact H2_) | (have H2_ := (Option.bind_some _ _).symm.trans H; with_reducible exact H2_) | with_reducible exact H | (rw [hy113]; exact H) | exact H
        have Ny113 := Aside0.mk hy113
        clear hy113
        replace H := Option.bind_eq_some_iff.mp H
        obtain ⟨t116, A120, H⟩ := H
        try dsimp -simprocs only at H
        have A12 := Aside0.mk A120
        clear A120
        by_cases c13 : y113.length + t116.length < 140737488355328
        rotate_left
        · rw [if_neg c13] at H
          exact absurd H (by simp)
        rw [if_pos c13] at H
        have LMc13 := Aside0.mk c13
        clear c13
        obtain ⟨y119, hy119⟩ : ∃ y_ : List Int, y_ = (y113 ++ t116) := ⟨_, rfl⟩
        replace H : (if y119.length + ((rd_T39 l0 x11_1).f5).size < 140737488355328 then (wire_Encode.l0 k1 (y119 ++ bytesOf ((rd_T39 l0 x11_1).f5)) 0 l0 (l0.length : Int) (wrap64 (x11_1 + 1))) else (none)) = some (r1, r2) := by first | (rw [hy119]; with_reducible exact H) | (have H2_ := (Option.bind_some _ _).symm.trans H; rw [hy119]; with_reducible exact H2_) | (have H2_ := (Option.bind_some _ _).symm.trans H; with_reducible exact H2_) | with_reducible exact H | (rw [hy119]; exact H) | exact H
        have Ny119 := Aside0.mk hy119
        clear hy119
        by_cases c14 : y119.length + ((rd_T39 l0 x11_1).f5).size < 140737488355328
        rotate_left
        · rw [if_neg c14] at H
          exact absurd H (by simp)
        rw [if_pos c14] at H
        have LMc14 := Aside0.mk c14
        clear c14
        obtain ⟨y122, hy122⟩ : ∃ y_ : List Int, y_ = (y119 ++ bytesOf ((rd_T39 l0 x11_1).f5)) := ⟨_, rfl⟩
        replace H : (wire_Encode.l0 k1 y122 0 l0 (l0.length : Int) (wrap64 (x11_1 + 1))) = some (r1, r2) := by first | (rw [hy122]; with_reducible exact H) | (have H2_ := (Option.bind_some _ _).symm.trans H; rw [hy122]; with_reducible exact H2_) | (have H2_ := (Option.bind_some _ _).symm.trans H; with_reducible exact H2_) | with_reducible exact H | (rw [hy122]; exact H) | exact H
        have Ny122 := Aside0.mk hy122
        clear hy122
        have H' := Aside0.mk H
        clear H
        have p101 : 0 ≤ (x11_1 : Int) := of_decide_eq_true qq3
        have q101 : x11_1 < (l0.length : Int) := of_decide_eq_true qq3
        obtain ⟨ad101, e101, hx101_0, hx101_1, hx101_2, hx101_3, hx101_4, hx101_5⟩ := at_T39 HR0.out x11_1 p101 q101
        cases e101
        replace hx101_0 := (HB.out.cell (World.block_lt_of_cell? w _ hx101_0)).trans hx101_0
        replace hx101_1 := (HB.out.cell (World.block_lt_of_cell? w _ hx101_1)).trans hx101_1
        replace hx101_2 := (HB.out.cell (World.block_lt_of_cell? w _ hx101_2)).trans hx101_2
        replace hx101_3 := (HB.out.cell (World.block_lt_of_cell? w _ hx101_3)).trans hx101_3
        replace hx101_4 := (HB.out.cell (World.block_lt_of_cell? w _ hx101_4)).trans hx101_4
        replace hx101_5 := (HB.out.cell (World.block_lt_of_cell? w _ hx101_5)).trans hx101_5
        replace p101 := eq_true p101
        replace q101 := eq_true q101
        go_wp2_with (first | ((with_reducible refine gate_dst (N := 7) rfl ?_); refine box_event ?hg (N := 7) ?hd (cs := #[.int .i64 0, .int .i64 0, .int .i64 0, .int .i64 0, .int .i64 0, .string (⟨#[]⟩ : ByteArray)]) (t := 39) ?hr ?_; (case hd => rfl); (case hg => rfl); (case hr => exact qq8); intro gb102 hg w15 hbox hb; replace HO_4 := Aside0.mk (Kd.R_below (qR HO_4.out) hb); have BK102 := Aside0.mk (hbox); have GW102 := Aside0.mk ((qq7 : w.heap.size ≤ gb102)); have GE102 := Aside0.mk ((qq7 : w.heap.size ≤ gb102)); replace HB := Aside0.mk (below_step (qB HB.out) hb); clear hb hbox hg; obtain ⟨hcz16_0, hcz16_1, hcz16_2, hcz16_3, hcz16_4, hcz16_5, hfz16_0, hfz16_1, hfz16_2, hfz16_3, hfz16_4, hfz16_5⟩ := blk6 BK102.out) | ((with_reducible refine gate_callee (f := 23) rfl ?_); refine goesL_ (some 16) rfl rfl Tryd.func23 (by kernel_rfl) rfl #[.agg #[.int .i64 ((rd_T39 l0 x11_1).f0), .int .i64 ((rd_T39 l0 x11_1).f1), .int .i64 ((rd_T39 l0 x11_1).f2), .int .i64 ((rd_T39 l0 x11_1).f3), .int .i64 ((rd_T39 l0 x11_1).f4), .string ((rd_T39 l0 x11_1).f5)]] rfl qq0 ?_; (with_reducible refine (wire_Right.calls k1 ((rd_T39 l0 x11_1).f0) ((rd_T39 l0 x11_1).f1) ((rd_T39 l0 x11_1).f2) ((rd_T39 l0 x11_1).f3) ((rd_T39 l0 x11_1).f4) ((rd_T39 l0 x11_1).f5) true _ A5.out).mono ?_); rintro e w17 ⟨rfl, hb⟩; refine ⟨_, rfl, ?_⟩; replace HO_4 := Aside0.mk (Kd.R_below qq5 hb); replace BK102 := Aside0.mk (blk_below (g := gb102) (o := .cells #[.int .i64 ((rd_T39 l0 x11_1).f0), .int .i64 ((rd_T39 l0 x11_1).f1), .int .i64 ((rd_T39 l0 x11_1).f2), .int .i64 ((rd_T39 l0 x11_1).f3), .int .i64 ((rd_T39 l0 x11_1).f4), .string ((rd_T39 l0 x11_1).f5)] 39 (0, 0)) (by refine bq ?_; refine blk_put (cs := #[.int .i64 ((rd_T39 l0 x11_1).f0), .int .i64 ((rd_T39 l0 x11_1).f1), .int .i64 ((rd_T39 l0 x11_1).f2), .int .i64 ((rd_T39 l0 x11_1).f3), .int .i64 ((rd_T39 l0 x11_1).f4), .string (⟨#[]⟩ : ByteArray)]) ?_ 5 _ rfl; refine bq ?_; refine blk_put (cs := #[.int .i64 ((rd_T39 l0 x11_1).f0), .int .i64 ((rd_T39 l0 x11_1).f1), .int .i64 ((rd_T39 l0 x11_1).f2), .int .i64 ((rd_T39 l0 x11_1).f3), .int .i64 0, .string (⟨#[]⟩ : ByteArray)]) ?_ 4 _ rfl; refine bq ?_; refine blk_put (cs := #[.int .i64 ((rd_T39 l0 x11_1).f0), .int .i64 ((rd_T39 l0 x11_1).f1), .int .i64 ((rd_T39 l0 x11_1).f2), .int .i64 0, .int .i64 0, .string (⟨#[]⟩ : ByteArray)]) ?_ 3 _ rfl; refine bq ?_; refine blk_put (cs := #[.int .i64 ((rd_T39 l0 x11_1).f0), .int .i64 ((rd_T39 l0 x11_1).f1), .int .i64 0, .int .i64 0, .int .i64 0, .string (⟨#[]⟩ : ByteArray)]) ?_ 2 _ rfl; refine bq ?_; refine blk_put (cs := #[.int .i64 ((rd_T39 l0 x11_1).f0), .int .i64 0, .int .i64 0, .int .i64 0, .int .i64 0, .string (⟨#[]⟩ : ByteArray)]) ?_ 1 _ rfl; refine bq ?_; refine blk_put (cs := #[.int .i64 0, .int .i64 0, .int .i64 0, .int .i64 0, .int .i64 0, .string (⟨#[]⟩ : ByteArray)]) ?_ 0 _ rfl; exact bq BK102.out) hb); replace HB := Aside0.mk (below_step (qS1 GE102 HB.out) hb); (try clear hb); (try clear hb2); (try clear hk); (try clear hi); obtain ⟨hcz18_0, hcz18_1, hcz18_2, hcz18_3, hcz18_4, hcz18_5, hfz18_0, hfz18_1, hfz18_2, hfz18_3, hfz18_4, hfz18_5⟩ := blk6 BK102.out) | ((with_reducible refine gate_callee (f := 24) rfl ?_); refine goesL_ (some 21) rfl rfl Tryd.func24 (by kernel_rfl) rfl #[.int .i64 ((rd_T39 l0 x11_1).f0)] rfl qq0 ?_; (with_reducible refine (wire_number.calls ((rd_T39 l0 x11_1).f0) t104 _ A7.out).mono ?_); rintro e w19 ⟨v105, rfl, ho0, hb⟩; refine ⟨_, rfl, ?_⟩; have HO106 := Aside0.mk (Kd.R_lower (Kd.R_new' ho0 (Kd.R_lt (qR HO_4.out))) (below_size (qS1 GE102 HB.out))); replace HO_4 := Aside0.mk (Kd.R_elder' (qR HO_4.out) (Kd.R_base ho0) hb); replace BK102 := Aside0.mk (blk_below (bq BK102.out) hb); replace HB := Aside0.mk (below_step (qS1 GE102 HB.out) hb); (try clear hb); (try clear hb2); (try clear hk); (try clear hi); (try clear ho0); obtain ⟨Ao21, co21, eo21⟩ := Kd.R_slice HO106.out; subst eo21) | ((with_reducible refine gate_builtin (b := .append) (xs := #[.tmp 18, .tmp 21]) rfl ?_); at_builtin; refine Kd.R_append_rows (Kd.int .u8) (w0 := w) w.heap.size rfl (.tmp 18) (.tmp 21) 56 5 (.int .u8 0) 1 rfl Tryd.underlying56 info5 rfl (by decide) (by omega) u4 x4_1 t104 _ _ _ (fun k_ => some k_ ≠ (.slice Ao21 t104.length co21 : Value).ownBlock) (fun _ => False) rfl rfl ?aO ?aR (fun _ _ h => h) (fun _ h => h.elim) ?aF ?aB ?aS ?aL ?_; (case aR => repeat (first | exact (Kd.R_reads' HO106.out).2.2 | (with_reducible refine Kd.C_alloc ?_ _) | (with_reducible refine Kd.C_drewN ?_ _) | (with_reducible refine Kd.C_drew ?_))); (case aB => exact qqn); (case aF => exact qqa); (case aO => exact qqb); (case aS => exact qqf); (case aL => have := LMc8.out; omega); intro v108 w20 ho hb hg hat; rw [← Ny107.out] at ho; replace BK102 := Aside0.mk (blk_grown (bq BK102.out) hg (Kd.R_ne HO_4.out BK102.out (by decide))); replace HO106 := Aside0.mk (Kd.R_after (ok := (fun _ => True)) (qR HO106.out) hg hat); replace HB := Aside0.mk (hb); have HO109 := Aside0.mk (ho); clear HO_4; clear ho hb hg hat; obtain ⟨hcz22_0, hcz22_1, hcz22_2, hcz22_3, hcz22_4, hcz22_5, hfz22_0, hfz22_1, hfz22_2, hfz22_3, hfz22_4, hfz22_5⟩ := blk6 BK102.out) | ((with_reducible refine gate_builtin (b := .append) (xs := #[.tmp 35, .tmp 36]) rfl ?_); at_builtin; refine Kd.R_append (Kd.int .u8) (w0 := w) w.heap.size rfl (.tmp 35) (.tmp 36) 56 5 (.int .u8 0) 1 rfl Tryd.underlying56 info5 rfl (by decide) (by omega) v108 y107 255 [.int .u8 255] (fun k_ => some k_ ≠ (.slice Ao21 t104.length co21 : Value).ownBlock) (fun _ => False) rfl rfl ?aP (fun _ hk => hk.elim) ?aF ?aO ?aB ?aS ?aL ?_; (case aP => exact rfl); (case aB => exact qqn); (case aF => exact qqa); (case aO => exact (qR HO109.out)); (case aS => exact qqf); (case aL => have := LMc10.out; omega); intro v111 w23 ho hb hg hat; rw [← Ny110.out] at ho; replace BK102 := Aside0.mk (blk_grown (bq BK102.out) hg (Kd.R_ne HO109.out BK102.out (by decide))); replace HO106 := Aside0.mk (Kd.R_after (ok := (fun _ => True)) (qR HO106.out) hg hat); replace HB := Aside0.mk (hb); have HO112 := Aside0.mk (ho); clear HO109; clear ho hb hg hat; obtain ⟨hcz24_0, hcz24_1, hcz24_2, hcz24_3, hcz24_4, hcz24_5, hfz24_0, hfz24_1, hfz24_2, hfz24_3, hfz24_4, hfz24_5⟩ := blk6 BK102.out) | ((with_reducible refine gate_builtin (b := .append) (xs := #[.tmp 38, .tmp 42]) rfl ?_); at_builtin; refine Kd.R_append (Kd.int .u8) (w0 := w) w.heap.size rfl (.tmp 38) (.tmp 42) 56 5 (.int .u8 0) 1 rfl Tryd.underlying56 info5 rfl (by decide) (by omega) v111 y110 (((rd_T39 l0 x11_1).f3) % 256) [.int .u8 (((rd_T39 l0 x11_1).f3) % 256)] (fun k_ => some k_ ≠ (.slice Ao21 t104.length co21 : Value).ownBlock) (fun _ => False) rfl rfl ?aP (fun _ hk => hk.elim) ?aF ?aO ?aB ?aS ?aL ?_; (case aP => exact rfl); (case aB => exact qqn); (case aF => exact qqa); (case aO => exact (qR HO112.out)); (case aS => exact qqf); (case aL => have := LMc11.out; omega); intro v114 w25 ho hb hg hat; rw [← Ny113.out] at ho; replace BK102 := Aside0.mk (blk_grown (bq BK102.out) hg (Kd.R_ne HO112.out BK102.out (by decide))); replace HO106 := Aside0.mk (Kd.R_after (ok := (fun _ => True)) (qR HO106.out) hg hat); replace HB := Aside0.mk (hb); have HO115 := Aside0.mk (ho); clear HO112; clear ho hb hg hat; obtain ⟨hcz26_0, hcz26_1, hcz26_2, hcz26_3, hcz26_4, hcz26_5, hfz26_0, hfz26_1, hfz26_2, hfz26_3, hfz26_4, hfz26_5⟩ := blk6 BK102.out) | ((with_reducible refine gate_callee (f := 24) rfl ?_); refine goesL_ (some 48) rfl rfl Tryd.func24 (by kernel_rfl) rfl #[.int .i64 (((rd_T39 l0 x11_1).f5).size : Int)] rfl qq0 ?_; (with_reducible refine (wire_number.calls (((rd_T39 l0 x11_1).f5).size : Int) t116 _ A12.out).mono ?_); rintro e w27 ⟨v117, rfl, ho0, hb⟩; refine ⟨_, rfl, ?_⟩; have HO118 := Aside0.mk (Kd.R_lower (Kd.R_new' (Kd.R_new' ho0 (Kd.R_lt (qR HO106.out))) (Kd.R_lt (qR HO115.out))) (below_size (qS1 GE102 HB.out))); replace HO106 := Aside0.mk (Kd.R_elder' (qR HO106.out) (Kd.R_base ho0) hb); replace HO115 := Aside0.mk (Kd.R_elder' (qR HO115.out) (Kd.R_base ho0) hb); replace BK102 := Aside0.mk (blk_below (bq BK102.out) hb); replace HB := Aside0.mk (below_step (qS1 GE102 HB.out) hb); (try clear hb); (try clear hb2); (try clear hk); (try clear hi); (try clear ho0); obtain ⟨Ao29, co29, eo29⟩ := Kd.R_slice HO118.out; subst eo29) | ((with_reducible refine gate_builtin (b := .append) (xs := #[.tmp 44, .tmp 48]) rfl ?_); at_builtin; refine Kd.R_append_rows (Kd.int .u8) (w0 := w) w.heap.size rfl (.tmp 44) (.tmp 48) 56 5 (.int .u8 0) 1 rfl Tryd.underlying56 info5 rfl (by decide) (by omega) v114 y113 t116 _ _ _ (fun k_ => some k_ ≠ (.slice Ao21 t104.length co21 : Value).ownBlock ∧ some k_ ≠ (.slice Ao29 t116.length co29 : Value).ownBlock) (fun _ => False) rfl rfl ?aO ?aR (fun _ _ h => h) (fun _ h => h.elim) ?aF ?aB ?aS ?aL ?_; (case aR => repeat (first | exact (Kd.R_reads' HO118.out).2.2 | (with_reducible refine Kd.C_alloc ?_ _) | (with_reducible refine Kd.C_drewN ?_ _) | (with_reducible refine Kd.C_drew ?_))); (case aB => exact qqn); (case aF => exact (fun k_ hk => ⟨Kd.fresh' (Kd.R_lt (qR HO106.out)) k_ hk, Kd.fresh' (Kd.R_lt (qR HO118.out)) k_ hk⟩)); (case aO => exact (qR HO115.out)); (case aS => exact qqf); (case aL => have := LMc13.out; omega); intro v120 w28 ho hb hg hat; rw [← Ny119.out] at ho; replace BK102 := Aside0.mk (blk_grown (bq BK102.out) hg (Kd.R_ne HO115.out BK102.out (by decide))); replace HO106 := Aside0.mk (Kd.R_after (ok := (fun k_ => some k_ ≠ (.slice Ao29 t116.length co29 : Value).ownBlock)) qqG hg hat); replace HO118 := Aside0.mk (Kd.R_after (ok := (fun k_ => some k_ ≠ (.slice Ao21 t104.length co21 : Value).ownBlock)) (by (with_reducible repeat (first | apply Kd.R_alloc | apply Kd.R_drewN | apply Kd.R_drew)); exact Kd.R_mono HO118.out (fun _ hk => ⟨hk.1.2, hk.2⟩)) hg hat); replace HB := Aside0.mk (hb); have HO121 := Aside0.mk (ho); clear HO115; clear ho hb hg hat; obtain ⟨hcz30_0, hcz30_1, hcz30_2, hcz30_3, hcz30_4, hcz30_5, hfz30_0, hfz30_1, hfz30_2, hfz30_3, hfz30_4, hfz30_5⟩ := blk6 BK102.out) | (at_builtin; refine print_append_str (w0 := w) w.heap.size rfl (.tmp 50) _ 56 9 5 rfl Tryd.underlying56 Tryd.underlying9 info5 v120 y119 ((rd_T39 l0 x11_1).f5) rfl rfl ?aO ?aB ?aS ?aL ?_; (case aB => exact qqn); (case aO => exact (Kd.own_of_R (by (with_reducible repeat (first | apply Kd.R_alloc | apply Kd.R_drewN | apply Kd.R_drew)); exact Kd.R_mono HO121.out (fun _ hk => trivial)))); (case aS => exact qqf); (case aL => have := LMc14.out; omega); intro v123 w31 ho0 hb hg; have ho := Kd.R_of_own (h1 := fun _ => rfl) (ok := fun _ => True) ho0 (fun _ _ => trivial); clear ho0; have hat := True.intro; rw [← Ny122.out] at ho; change Kd.R (Kd.int .u8) 5 w31 w.heap.size (fun _ => True) v123 y122 at ho; replace BK102 := Aside0.mk (blk_grown (bq BK102.out) hg (Kd.R_ne HO121.out BK102.out (by decide))); replace HB := Aside0.mk (hb); have HO124 := Aside0.mk (ho); clear HO121; clear ho hb hg hat))
        go_roundg k1
        case measure => have := HK1.out; omega
        case rel => exact ⟨(y122), (0), (wrap64 (x11_1 + 1)), qq6, qq6, H', ⟨qqm⟩, ⟨qR HO124.out⟩, ⟨qS1 GE102 HB.out⟩⟩
      rw [if_neg c9] at H
      have c9b0 : (((rd_T39 l0 x11_1).f1) == 16) = false := beq_eq_false_iff_ne.mpr c9
      have c9b1 : (((rd_T39 l0 x11_1).f1) != 16) = true := bne_iff_ne.mpr c9
      by_cases c32 : ((rd_T39 l0 x11_1).f1) = 15
      · rw [if_pos c32] at H
        have c32b0 : (((rd_T39 l0 x11_1).f1) == 15) = true := beq_iff_eq.mpr c32
        have c32b1 : (((rd_T39 l0 x11_1).f1) != 15) = false := bne_eq_false_iff_eq.mpr c32
        clear c32
        by_cases c33 : y107.length < 140737488355328
        rotate_left
        · rw [if_neg c33] at H
          exact absurd H (by simp)
        rw [if_pos c33] at H
        have LMc33 := Aside0.mk c33
        clear c33
        obtain ⟨y125, hy125⟩ : ∃ y_ : List Int, y_ = (y107 ++ [((rd_T39 l0 x11_1).f3) % 256]) := ⟨_, rfl⟩
        replace H : ((wire_number.f (((rd_T39 l0 x11_1).f5).size : Int)).bind fun t128 => (if y125.length + t128.length < 140737488355328 then ((some (y125 ++ t128 : List Int)).bind fun y131 => (if y131.length + ((rd_T39 l0 x11_1).f5).size < 140737488355328 then (wire_Encode.l0 k1 (y131 ++ bytesOf ((rd_T39 l0 x11_1).f5)) 0 l0 (l0.length : Int) (wrap64 (x11_1 + 1))) else (none))) else (none))) = some (r1, r2) := by first | (rw [hy125]; with_reducible exact H) | (have H2_ := (Option.bind_some _ _).symm.trans H; rw [hy125]; with_reducible exact H2_) | (have H2_ := (Option.bind_some _ _).symm.trans H; with_reducible exact H2_) | with_reducible exact H | (rw [hy125]; exact H) | exact H
        have Ny125 := Aside0.mk hy125
        clear hy125
        replace H := Option.bind_eq_some_iff.mp H
        obtain ⟨t128, A340, H⟩ := H
        try dsimp -simprocs only at H
        have A34 := Aside0.mk A340
        clear A340
        by_cases c35 : y125.length + t128.length < 140737488355328
        rotate_left
        · rw [if_neg c35] at H
          exact absurd H (by simp)
        rw [if_pos c35] at H
        have LMc35 := Aside0.mk c35
        clear c35
        obtain ⟨y131, hy131⟩ : ∃ y_ : List Int, y_ = (y125 ++ t128) := ⟨_, rfl⟩
        replace H : (if y131.length + ((rd_T39 l0 x11_1).f5).size < 140737488355328 then (wire_Encode.l0 k1 (y131 ++ bytesOf ((rd_T39 l0 x11_1).f5)) 0 l0 (l0.length : Int) (wrap64 (x11_1 + 1))) else (none)) = some (r1, r2) := by first | (rw [hy131]; with_reducible exact H) | (have H2_ := (Option.bind_some _ _).symm.trans H; rw [hy131]; with_reducible exact H2_) | (have H2_ := (Option.bind_some _ _).symm.trans H; with_reducible exact H2_) | with_reducible exact H | (rw [hy131]; exact H) | exact H
        have Ny131 := Aside0.mk hy131
        clear hy131
        by_cases c36 : y131.length + ((rd_T39 l0 x11_1).f5).size < 140737488355328
        rotate_left
        · rw [if_neg c36] at H
          exact absurd H (by simp)
        rw [if_pos c36] at H
        have LMc36 := Aside0.mk c36
        clear c36
        obtain ⟨y134, hy134⟩ : ∃ y_ : List Int, y_ = (y131 ++ bytesOf ((rd_T39 l0 x11_1).f5)) := ⟨_, rfl⟩
        replace H : (wire_Encode.l0 k1 y134 0 l0 (l0.length : Int) (wrap64 (x11_1 + 1))) = some (r1, r2) := by first | (rw [hy134]; with_reducible exact H) | (have H2_ := (Option.bind_some _ _).symm.trans H; rw [hy134]; with_reducible exact H2_) | (have H2_ := (Option.bind_some _ _).symm.trans H; with_reducible exact H2_) | with_reducible exact H | (rw [hy134]; exact H) | exact H
        have Ny134 := Aside0.mk hy134
        clear hy134
        have H' := Aside0.mk H
        clear H
        have p101 : 0 ≤ (x11_1 : Int) := of_decide_eq_true qq3
        have q101 : x11_1 < (l0.length : Int) := of_decide_eq_true qq3
        obtain ⟨ad101, e101, hx101_0, hx101_1, hx101_2, hx101_3, hx101_4, hx101_5⟩ := at_T39 HR0.out x11_1 p101 q101
        cases e101
        replace hx101_0 := (HB.out.cell (World.block_lt_of_cell? w _ hx101_0)).trans hx101_0
        replace hx101_1 := (HB.out.cell (World.block_lt_of_cell? w _ hx101_1)).trans hx101_1
        replace hx101_2 := (HB.out.cell (World.block_lt_of_cell? w _ hx101_2)).trans hx101_2
        replace hx101_3 := (HB.out.cell (World.block_lt_of_cell? w _ hx101_3)).trans hx101_3
        replace hx101_4 := (HB.out.cell (World.block_lt_of_cell? w _ hx101_4)).trans hx101_4
        replace hx101_5 := (HB.out.cell (World.block_lt_of_cell? w _ hx101_5)).trans hx101_5
        replace p101 := eq_true p101
        replace q101 := eq_true q101
        go_wp2_with (first | ((with_reducible refine gate_dst (N := 7) rfl ?_); refine box_event ?hg (N := 7) ?hd (cs := #[.int .i64 0, .int .i64 0, .int .i64 0, .int .i64 0, .int .i64 0, .string (⟨#[]⟩ : ByteArray)]) (t := 39) ?hr ?_; (case hd => rfl); (case hg => rfl); (case hr => exact qq8); intro gb102 hg w37 hbox hb; replace HO_4 := Aside0.mk (Kd.R_below (qR HO_4.out) hb); have BK102 := Aside0.mk (hbox); have GW102 := Aside0.mk ((qq7 : w.heap.size ≤ gb102)); have GE102 := Aside0.mk ((qq7 : w.heap.size ≤ gb102)); replace HB := Aside0.mk (below_step (qB HB.out) hb); clear hb hbox hg; obtain ⟨hcz38_0, hcz38_1, hcz38_2, hcz38_3, hcz38_4, hcz38_5, hfz38_0, hfz38_1, hfz38_2, hfz38_3, hfz38_4, hfz38_5⟩ := blk6 BK102.out) | ((with_reducible refine gate_callee (f := 23) rfl ?_); refine goesL_ (some 16) rfl rfl Tryd.func23 (by kernel_rfl) rfl #[.agg #[.int .i64 ((rd_T39 l0 x11_1).f0), .int .i64 ((rd_T39 l0 x11_1).f1), .int .i64 ((rd_T39 l0 x11_1).f2), .int .i64 ((rd_T39 l0 x11_1).f3), .int .i64 ((rd_T39 l0 x11_1).f4), .string ((rd_T39 l0 x11_1).f5)]] rfl qq0 ?_; (with_reducible refine (wire_Right.calls k1 ((rd_T39 l0 x11_1).f0) ((rd_T39 l0 x11_1).f1) ((rd_T39 l0 x11_1).f2) ((rd_T39 l0 x11_1).f3) ((rd_T39 l0 x11_1).f4) ((rd_T39 l0 x11_1).f5) true _ A5.out).mono ?_); rintro e w39 ⟨rfl, hb⟩; refine ⟨_, rfl, ?_⟩; replace HO_4 := Aside0.mk (Kd.R_below qq5 hb); replace BK102 := Aside0.mk (blk_below (g := gb102) (o := .cells #[.int .i64 ((rd_T39 l0 x11_1).f0), .int .i64 ((rd_T39 l0 x11_1).f1), .int .i64 ((rd_T39 l0 x11_1).f2), .int .i64 ((rd_T39 l0 x11_1).f3), .int .i64 ((rd_T39 l0 x11_1).f4), .string ((rd_T39 l0 x11_1).f5)] 39 (0, 0)) (by refine bq ?_; refine blk_put (cs := #[.int .i64 ((rd_T39 l0 x11_1).f0), .int .i64 ((rd_T39 l0 x11_1).f1), .int .i64 ((rd_T39 l0 x11_1).f2), .int .i64 ((rd_T39 l0 x11_1).f3), .int .i64 ((rd_T39 l0 x11_1).f4), .string (⟨#[]⟩ : ByteArray)]) ?_ 5 _ rfl; refine bq ?_; refine blk_put (cs := #[.int .i64 ((rd_T39 l0 x11_1).f0), .int .i64 ((rd_T39 l0 x11_1).f1), .int .i64 ((rd_T39 l0 x11_1).f2), .int .i64 ((rd_T39 l0 x11_1).f3), .int .i64 0, .string (⟨#[]⟩ : ByteArray)]) ?_ 4 _ rfl; refine bq ?_; refine blk_put (cs := #[.int .i64 ((rd_T39 l0 x11_1).f0), .int .i64 ((rd_T39 l0 x11_1).f1), .int .i64 ((rd_T39 l0 x11_1).f2), .int .i64 0, .int .i64 0, .string (⟨#[]⟩ : ByteArray)]) ?_ 3 _ rfl; refine bq ?_; refine blk_put (cs := #[.int .i64 ((rd_T39 l0 x11_1).f0), .int .i64 ((rd_T39 l0 x11_1).f1), .int .i64 0, .int .i64 0, .int .i64 0, .string (⟨#[]⟩ : ByteArray)]) ?_ 2 _ rfl; refine bq ?_; refine blk_put (cs := #[.int .i64 ((rd_T39 l0 x11_1).f0), .int .i64 0, .int .i64 0, .int .i64 0, .int .i64 0, .string (⟨#[]⟩ : ByteArray)]) ?_ 1 _ rfl; refine bq ?_; refine blk_put (cs := #[.int .i64 0, .int .i64 0, .int .i64 0, .int .i64 0, .int .i64 0, .string (⟨#[]⟩ : ByteArray)]) ?_ 0 _ rfl; exact bq BK102.out) hb); replace HB := Aside0.mk (below_step (qS1 GE102 HB.out) hb); (try clear hb); (try clear hb2); (try clear hk); (try clear hi); obtain ⟨hcz40_0, hcz40_1, hcz40_2, hcz40_3, hcz40_4, hcz40_5, hfz40_0, hfz40_1, hfz40_2, hfz40_3, hfz40_4, hfz40_5⟩ := blk6 BK102.out) | ((with_reducible refine gate_callee (f := 24) rfl ?_); refine goesL_ (some 21) rfl rfl Tryd.func24 (by kernel_rfl) rfl #[.int .i64 ((rd_T39 l0 x11_1).f0)] rfl qq0 ?_; (with_reducible refine (wire_number.calls ((rd_T39 l0 x11_1).f0) t104 _ A7.out).mono ?_); rintro e w41 ⟨v105, rfl, ho0, hb⟩; refine ⟨_, rfl, ?_⟩; have HO106 := Aside0.mk (Kd.R_lower (Kd.R_new' ho0 (Kd.R_lt (qR HO_4.out))) (below_size (qS1 GE102 HB.out))); replace HO_4 := Aside0.mk (Kd.R_elder' (qR HO_4.out) (Kd.R_base ho0) hb); replace BK102 := Aside0.mk (blk_below (bq BK102.out) hb); replace HB := Aside0.mk (below_step (qS1 GE102 HB.out) hb); (try clear hb); (try clear hb2); (try clear hk); (try clear hi); (try clear ho0); obtain ⟨Ao43, co43, eo43⟩ := Kd.R_slice HO106.out; subst eo43) | ((with_reducible refine gate_builtin (b := .append) (xs := #[.tmp 18, .tmp 21]) rfl ?_); at_builtin; refine Kd.R_append_rows (Kd.int .u8) (w0 := w) w.heap.size rfl (.tmp 18) (.tmp 21) 56 5 (.int .u8 0) 1 rfl Tryd.underlying56 info5 rfl (by decide) (by omega) u4 x4_1 t104 _ _ _ (fun k_ => some k_ ≠ (.slice Ao43 t104.length co43 : Value).ownBlock) (fun _ => False) rfl rfl ?aO ?aR (fun _ _ h => h) (fun _ h => h.elim) ?aF ?aB ?aS ?aL ?_; (case aR => repeat (first | exact (Kd.R_reads' HO106.out).2.2 | (with_reducible refine Kd.C_alloc ?_ _) | (with_reducible refine Kd.C_drewN ?_ _) | (with_reducible refine Kd.C_drew ?_))); (case aB => exact qqn); (case aF => exact qqa); (case aO => exact qqb); (case aS => exact qqf); (case aL => have := LMc8.out; omega); intro v108 w42 ho hb hg hat; rw [← Ny107.out] at ho; replace BK102 := Aside0.mk (blk_grown (bq BK102.out) hg (Kd.R_ne HO_4.out BK102.out (by decide))); replace HO106 := Aside0.mk (Kd.R_after (ok := (fun _ => True)) (qR HO106.out) hg hat); replace HB := Aside0.mk (hb); have HO109 := Aside0.mk (ho); clear HO_4; clear ho hb hg hat; obtain ⟨hcz44_0, hcz44_1, hcz44_2, hcz44_3, hcz44_4, hcz44_5, hfz44_0, hfz44_1, hfz44_2, hfz44_3, hfz44_4, hfz44_5⟩ := blk6 BK102.out) | ((with_reducible refine gate_builtin (b := .append) (xs := #[.tmp 38, .tmp 42]) rfl ?_); at_builtin; refine Kd.R_append (Kd.int .u8) (w0 := w) w.heap.size rfl (.tmp 38) (.tmp 42) 56 5 (.int .u8 0) 1 rfl Tryd.underlying56 info5 rfl (by decide) (by omega) v108 y107 (((rd_T39 l0 x11_1).f3) % 256) [.int .u8 (((rd_T39 l0 x11_1).f3) % 256)] (fun k_ => some k_ ≠ (.slice Ao43 t104.length co43 : Value).ownBlock) (fun _ => False) rfl rfl ?aP (fun _ hk => hk.elim) ?aF ?aO ?aB ?aS ?aL ?_; (case aP => exact rfl); (case aB => exact qqn); (case aF => exact qqa); (case aO => exact (qR HO109.out)); (case aS => exact qqf); (case aL => have := LMc33.out; omega); intro v126 w45 ho hb hg hat; rw [← Ny125.out] at ho; replace BK102 := Aside0.mk (blk_grown (bq BK102.out) hg (Kd.R_ne HO109.out BK102.out (by decide))); replace HO106 := Aside0.mk (Kd.R_after (ok := (fun _ => True)) (qR HO106.out) hg hat); replace HB := Aside0.mk (hb); have HO127 := Aside0.mk (ho); clear HO109; clear ho hb hg hat; obtain ⟨hcz46_0, hcz46_1, hcz46_2, hcz46_3, hcz46_4, hcz46_5, hfz46_0, hfz46_1, hfz46_2, hfz46_3, hfz46_4, hfz46_5⟩ := blk6 BK102.out) | ((with_reducible refine gate_callee (f := 24) rfl ?_); refine goesL_ (some 48) rfl rfl Tryd.func24 (by kernel_rfl) rfl #[.int .i64 (((rd_T39 l0 x11_1).f5).size : Int)] rfl qq0 ?_; (with_reducible refine (wire_number.calls (((rd_T39 l0 x11_1).f5).size : Int) t128 _ A34.out).mono ?_); rintro e w47 ⟨v129, rfl, ho0, hb⟩; refine ⟨_, rfl, ?_⟩; have HO130 := Aside0.mk (Kd.R_lower (Kd.R_new' (Kd.R_new' ho0 (Kd.R_lt (qR HO106.out))) (Kd.R_lt (qR HO127.out))) (below_size (qS1 GE102 HB.out))); replace HO106 := Aside0.mk (Kd.R_elder' (qR HO106.out) (Kd.R_base ho0) hb); replace HO127 := Aside0.mk (Kd.R_elder' (qR HO127.out) (Kd.R_base ho0) hb); replace BK102 := Aside0.mk (blk_below (bq BK102.out) hb); replace HB := Aside0.mk (below_step (qS1 GE102 HB.out) hb); (try clear hb); (try clear hb2); (try clear hk); (try clear hi); (try clear ho0); obtain ⟨Ao49, co49, eo49⟩ := Kd.R_slice HO130.out; subst eo49) | ((with_reducible refine gate_builtin (b := .append) (xs := #[.tmp 44, .tmp 48]) rfl ?_); at_builtin; refine Kd.R_append_rows (Kd.int .u8) (w0 := w) w.heap.size rfl (.tmp 44) (.tmp 48) 56 5 (.int .u8 0) 1 rfl Tryd.underlying56 info5 rfl (by decide) (by omega) v126 y125 t128 _ _ _ (fun k_ => some k_ ≠ (.slice Ao43 t104.length co43 : Value).ownBlock ∧ some k_ ≠ (.slice Ao49 t128.length co49 : Value).ownBlock) (fun _ => False) rfl rfl ?aO ?aR (fun _ _ h => h) (fun _ h => h.elim) ?aF ?aB ?aS ?aL ?_; (case aR => repeat (first | exact (Kd.R_reads' HO130.out).2.2 | (with_reducible refine Kd.C_alloc ?_ _) | (with_reducible refine Kd.C_drewN ?_ _) | (with_reducible refine Kd.C_drew ?_))); (case aB => exact qqn); (case aF => exact (fun k_ hk => ⟨Kd.fresh' (Kd.R_lt (qR HO106.out)) k_ hk, Kd.fresh' (Kd.R_lt (qR HO130.out)) k_ hk⟩)); (case aO => exact (qR HO127.out)); (case aS => exact qqf); (case aL => have := LMc35.out; omega); intro v132 w48 ho hb hg hat; rw [← Ny131.out] at ho; replace BK102 := Aside0.mk (blk_grown (bq BK102.out) hg (Kd.R_ne HO127.out BK102.out (by decide))); replace HO106 := Aside0.mk (Kd.R_after (ok := (fun k_ => some k_ ≠ (.slice Ao49 t128.length co49 : Value).ownBlock)) qqG hg hat); replace HO130 := Aside0.mk (Kd.R_after (ok := (fun k_ => some k_ ≠ (.slice Ao43 t104.length co43 : Value).ownBlock)) (by (with_reducible repeat (first | apply Kd.R_alloc | apply Kd.R_drewN | apply Kd.R_drew)); exact Kd.R_mono HO130.out (fun _ hk => ⟨hk.1.2, hk.2⟩)) hg hat); replace HB := Aside0.mk (hb); have HO133 := Aside0.mk (ho); clear HO127; clear ho hb hg hat; obtain ⟨hcz50_0, hcz50_1, hcz50_2, hcz50_3, hcz50_4, hcz50_5, hfz50_0, hfz50_1, hfz50_2, hfz50_3, hfz50_4, hfz50_5⟩ := blk6 BK102.out) | (at_builtin; refine print_append_str (w0 := w) w.heap.size rfl (.tmp 50) _ 56 9 5 rfl Tryd.underlying56 Tryd.underlying9 info5 v132 y131 ((rd_T39 l0 x11_1).f5) rfl rfl ?aO ?aB ?aS ?aL ?_; (case aB => exact qqn); (case aO => exact (Kd.own_of_R (by (with_reducible repeat (first | apply Kd.R_alloc | apply Kd.R_drewN | apply Kd.R_drew)); exact Kd.R_mono HO133.out (fun _ hk => trivial)))); (case aS => exact qqf); (case aL => have := LMc36.out; omega); intro v135 w51 ho0 hb hg; have ho := Kd.R_of_own (h1 := fun _ => rfl) (ok := fun _ => True) ho0 (fun _ _ => trivial); clear ho0; have hat := True.intro; rw [← Ny134.out] at ho; change Kd.R (Kd.int .u8) 5 w51 w.heap.size (fun _ => True) v135 y134 at ho; replace BK102 := Aside0.mk (blk_grown (bq BK102.out) hg (Kd.R_ne HO133.out BK102.out (by decide))); replace HB := Aside0.mk (hb); have HO136 := Aside0.mk (ho); clear HO133; clear ho hb hg hat))
        go_roundg k1
        case measure => have := HK1.out; omega
        case rel => exact ⟨(y134), (0), (wrap64 (x11_1 + 1)), qq6, qq6, H', ⟨qqm⟩, ⟨qR HO136.out⟩, ⟨qS1 GE102 HB.out⟩⟩
      rw [if_neg c32] at H
      have c32b0 : (((rd_T39 l0 x11_1).f1) == 15) = false := beq_eq_false_iff_ne.mpr c32
      have c32b1 : (((rd_T39 l0 x11_1).f1) != 15) = true := bne_iff_ne.mpr c32
      by_cases c52 : (wrap64 ((wrap64 (16 * ((rd_T39 l0 x11_1).f1))) + ((rd_T39 l0 x11_1).f2))) = x5_1
      · rw [if_pos c52] at H
        have c52b0 : ((wrap64 ((wrap64 (16 * ((rd_T39 l0 x11_1).f1))) + ((rd_T39 l0 x11_1).f2))) == x5_1) = true := beq_iff_eq.mpr c52
        have c52b1 : ((wrap64 ((wrap64 (16 * ((rd_T39 l0 x11_1).f1))) + ((rd_T39 l0 x11_1).f2))) != x5_1) = false := bne_eq_false_iff_eq.mpr c52
        clear c52
        by_cases c53 : y107.length < 140737488355328
        rotate_left
        · rw [if_neg c53] at H
          exact absurd H (by simp)
        rw [if_pos c53] at H
        have LMc53 := Aside0.mk c53
        clear c53
        obtain ⟨y137, hy137⟩ : ∃ y_ : List Int, y_ = (y107 ++ [((rd_T39 l0 x11_1).f3) % 256]) := ⟨_, rfl⟩
        replace H : ((wire_one.f ((rd_T39 l0 x11_1).f1)).bind fun t140 => (if t140 = true then (wire_Encode.l0 k1 y137 (wrap64 ((wrap64 (16 * ((rd_T39 l0 x11_1).f1))) + ((rd_T39 l0 x11_1).f2))) l0 (l0.length : Int) (wrap64 (x11_1 + 1))) else (if y137.length < 140737488355328 then (wire_Encode.l0 k1 (y137 ++ [((rd_T39 l0 x11_1).f4) % 256]) (wrap64 ((wrap64 (16 * ((rd_T39 l0 x11_1).f1))) + ((rd_T39 l0 x11_1).f2))) l0 (l0.length : Int) (wrap64 (x11_1 + 1))) else (none)))) = some (r1, r2) := by first | (rw [hy137]; with_reducible exact H) | (have H2_ := (Option.bind_some _ _).symm.trans H; rw [hy137]; with_reducible exact H2_) | (have H2_ := (Option.bind_some _ _).symm.trans H; with_reducible exact H2_) | with_reducible exact H | (rw [hy137]; exact H) | exact H
        have Ny137 := Aside0.mk hy137
        clear hy137
        replace H := Option.bind_eq_some_iff.mp H
        obtain ⟨t140, A540, H⟩ := H
        try dsimp -simprocs only at H
        have A54 := Aside0.mk A540
        clear A540
        by_cases c55 : t140 = true
        · subst c55
          have H1 : (wire_Encode.l0 k1 y137 (wrap64 ((wrap64 (16 * ((rd_T39 l0 x11_1).f1))) + ((rd_T39 l0 x11_1).f2))) l0 (l0.length : Int) (wrap64 (x11_1 + 1))) = some (r1, r2) := by rw [if_pos rfl] at H; exact H
          clear H
          have H := H1
          clear H1
          have H' := Aside0.mk H
          clear H
          have p101 : 0 ≤ (x11_1 : Int) := of_decide_eq_true qq3
          have q101 : x11_1 < (l0.length : Int) := of_decide_eq_true qq3
          obtain ⟨ad101, e101, hx101_0, hx101_1, hx101_2, hx101_3, hx101_4, hx101_5⟩ := at_T39 HR0.out x11_1 p101 q101
          cases e101
          replace hx101_0 := (HB.out.cell (World.block_lt_of_cell? w _ hx101_0)).trans hx101_0
          replace hx101_1 := (HB.out.cell (World.block_lt_of_cell? w _ hx101_1)).trans hx101_1
          replace hx101_2 := (HB.out.cell (World.block_lt_of_cell? w _ hx101_2)).trans hx101_2
          replace hx101_3 := (HB.out.cell (World.block_lt_of_cell? w _ hx101_3)).trans hx101_3
          replace hx101_4 := (HB.out.cell (World.block_lt_of_cell? w _ hx101_4)).trans hx101_4
          replace hx101_5 := (HB.out.cell (World.block_lt_of_cell? w _ hx101_5)).trans hx101_5
          replace p101 := eq_true p101
          replace q101 := eq_true q101
          go_wp2_with (first | ((with_reducible refine gate_dst (N := 7) rfl ?_); refine box_event ?hg (N := 7) ?hd (cs := #[.int .i64 0, .int .i64 0, .int .i64 0, .int .i64 0, .int .i64 0, .string (⟨#[]⟩ : ByteArray)]) (t := 39) ?hr ?_; (case hd => rfl); (case hg => rfl); (case hr => exact qq8); intro gb102 hg w56 hbox hb; replace HO_4 := Aside0.mk (Kd.R_below (qR HO_4.out) hb); have BK102 := Aside0.mk (hbox); have GW102 := Aside0.mk ((qq7 : w.heap.size ≤ gb102)); have GE102 := Aside0.mk ((qq7 : w.heap.size ≤ gb102)); replace HB := Aside0.mk (below_step (qB HB.out) hb); clear hb hbox hg; obtain ⟨hcz57_0, hcz57_1, hcz57_2, hcz57_3, hcz57_4, hcz57_5, hfz57_0, hfz57_1, hfz57_2, hfz57_3, hfz57_4, hfz57_5⟩ := blk6 BK102.out) | ((with_reducible refine gate_callee (f := 23) rfl ?_); refine goesL_ (some 16) rfl rfl Tryd.func23 (by kernel_rfl) rfl #[.agg #[.int .i64 ((rd_T39 l0 x11_1).f0), .int .i64 ((rd_T39 l0 x11_1).f1), .int .i64 ((rd_T39 l0 x11_1).f2), .int .i64 ((rd_T39 l0 x11_1).f3), .int .i64 ((rd_T39 l0 x11_1).f4), .string ((rd_T39 l0 x11_1).f5)]] rfl qq0 ?_; (with_reducible refine (wire_Right.calls k1 ((rd_T39 l0 x11_1).f0) ((rd_T39 l0 x11_1).f1) ((rd_T39 l0 x11_1).f2) ((rd_T39 l0 x11_1).f3) ((rd_T39 l0 x11_1).f4) ((rd_T39 l0 x11_1).f5) true _ A5.out).mono ?_); rintro e w58 ⟨rfl, hb⟩; refine ⟨_, rfl, ?_⟩; replace HO_4 := Aside0.mk (Kd.R_below qq5 hb); replace BK102 := Aside0.mk (blk_below (g := gb102) (o := .cells #[.int .i64 ((rd_T39 l0 x11_1).f0), .int .i64 ((rd_T39 l0 x11_1).f1), .int .i64 ((rd_T39 l0 x11_1).f2), .int .i64 ((rd_T39 l0 x11_1).f3), .int .i64 ((rd_T39 l0 x11_1).f4), .string ((rd_T39 l0 x11_1).f5)] 39 (0, 0)) (by refine bq ?_; refine blk_put (cs := #[.int .i64 ((rd_T39 l0 x11_1).f0), .int .i64 ((rd_T39 l0 x11_1).f1), .int .i64 ((rd_T39 l0 x11_1).f2), .int .i64 ((rd_T39 l0 x11_1).f3), .int .i64 ((rd_T39 l0 x11_1).f4), .string (⟨#[]⟩ : ByteArray)]) ?_ 5 _ rfl; refine bq ?_; refine blk_put (cs := #[.int .i64 ((rd_T39 l0 x11_1).f0), .int .i64 ((rd_T39 l0 x11_1).f1), .int .i64 ((rd_T39 l0 x11_1).f2), .int .i64 ((rd_T39 l0 x11_1).f3), .int .i64 0, .string (⟨#[]⟩ : ByteArray)]) ?_ 4 _ rfl; refine bq ?_; refine blk_put (cs := #[.int .i64 ((rd_T39 l0 x11_1).f0), .int .i64 ((rd_T39 l0 x11_1).f1), .int .i64 ((rd_T39 l0 x11_1).f2), .int .i64 0, .int .i64 0, .string (⟨#[]⟩ : ByteArray)]) ?_ 3 _ rfl; refine bq ?_; refine blk_put (cs := #[.int .i64 ((rd_T39 l0 x11_1).f0), .int .i64 ((rd_T39 l0 x11_1).f1), .int .i64 0, .int .i64 0, .int .i64 0, .string (⟨#[]⟩ : ByteArray)]) ?_ 2 _ rfl; refine bq ?_; refine blk_put (cs := #[.int .i64 ((rd_T39 l0 x11_1).f0), .int .i64 0, .int .i64 0, .int .i64 0, .int .i64 0, .string (⟨#[]⟩ : ByteArray)]) ?_ 1 _ rfl; refine bq ?_; refine blk_put (cs := #[.int .i64 0, .int .i64 0, .int .i64 0, .int .i64 0, .int .i64 0, .string (⟨#[]⟩ : ByteArray)]) ?_ 0 _ rfl; exact bq BK102.out) hb); replace HB := Aside0.mk (below_step (qS1 GE102 HB.out) hb); (try clear hb); (try clear hb2); (try clear hk); (try clear hi); obtain ⟨hcz59_0, hcz59_1, hcz59_2, hcz59_3, hcz59_4, hcz59_5, hfz59_0, hfz59_1, hfz59_2, hfz59_3, hfz59_4, hfz59_5⟩ := blk6 BK102.out) | ((with_reducible refine gate_callee (f := 24) rfl ?_); refine goesL_ (some 21) rfl rfl Tryd.func24 (by kernel_rfl) rfl #[.int .i64 ((rd_T39 l0 x11_1).f0)] rfl qq0 ?_; (with_reducible refine (wire_number.calls ((rd_T39 l0 x11_1).f0) t104 _ A7.out).mono ?_); rintro e w60 ⟨v105, rfl, ho0, hb⟩; refine ⟨_, rfl, ?_⟩; have HO106 := Aside0.mk (Kd.R_lower (Kd.R_new' ho0 (Kd.R_lt (qR HO_4.out))) (below_size (qS1 GE102 HB.out))); replace HO_4 := Aside0.mk (Kd.R_elder' (qR HO_4.out) (Kd.R_base ho0) hb); replace BK102 := Aside0.mk (blk_below (bq BK102.out) hb); replace HB := Aside0.mk (below_step (qS1 GE102 HB.out) hb); (try clear hb); (try clear hb2); (try clear hk); (try clear hi); (try clear ho0); obtain ⟨Ao62, co62, eo62⟩ := Kd.R_slice HO106.out; subst eo62) | ((with_reducible refine gate_builtin (b := .append) (xs := #[.tmp 18, .tmp 21]) rfl ?_); at_builtin; refine Kd.R_append_rows (Kd.int .u8) (w0 := w) w.heap.size rfl (.tmp 18) (.tmp 21) 56 5 (.int .u8 0) 1 rfl Tryd.underlying56 info5 rfl (by decide) (by omega) u4 x4_1 t104 _ _ _ (fun k_ => some k_ ≠ (.slice Ao62 t104.length co62 : Value).ownBlock) (fun _ => False) rfl rfl ?aO ?aR (fun _ _ h => h) (fun _ h => h.elim) ?aF ?aB ?aS ?aL ?_; (case aR => repeat (first | exact (Kd.R_reads' HO106.out).2.2 | (with_reducible refine Kd.C_alloc ?_ _) | (with_reducible refine Kd.C_drewN ?_ _) | (with_reducible refine Kd.C_drew ?_))); (case aB => exact qqn); (case aF => exact qqa); (case aO => exact qqb); (case aS => exact qqf); (case aL => have := LMc8.out; omega); intro v108 w61 ho hb hg hat; rw [← Ny107.out] at ho; replace BK102 := Aside0.mk (blk_grown (bq BK102.out) hg (Kd.R_ne HO_4.out BK102.out (by decide))); replace HO106 := Aside0.mk (Kd.R_after (ok := (fun _ => True)) (qR HO106.out) hg hat); replace HB := Aside0.mk (hb); have HO109 := Aside0.mk (ho); clear HO_4; clear ho hb hg hat; obtain ⟨hcz63_0, hcz63_1, hcz63_2, hcz63_3, hcz63_4, hcz63_5, hfz63_0, hfz63_1, hfz63_2, hfz63_3, hfz63_4, hfz63_5⟩ := blk6 BK102.out) | ((with_reducible refine gate_builtin (b := .append) (xs := #[.tmp 62, .tmp 66]) rfl ?_); at_builtin; refine Kd.R_append (Kd.int .u8) (w0 := w) w.heap.size rfl (.tmp 62) (.tmp 66) 56 5 (.int .u8 0) 1 rfl Tryd.underlying56 info5 rfl (by decide) (by omega) v108 y107 (((rd_T39 l0 x11_1).f3) % 256) [.int .u8 (((rd_T39 l0 x11_1).f3) % 256)] (fun k_ => some k_ ≠ (.slice Ao62 t104.length co62 : Value).ownBlock) (fun _ => False) rfl rfl ?aP (fun _ hk => hk.elim) ?aF ?aO ?aB ?aS ?aL ?_; (case aP => exact rfl); (case aB => exact qqn); (case aF => exact qqa); (case aO => exact (qR HO109.out)); (case aS => exact qqf); (case aL => have := LMc53.out; omega); intro v138 w64 ho hb hg hat; rw [← Ny137.out] at ho; replace BK102 := Aside0.mk (blk_grown (bq BK102.out) hg (Kd.R_ne HO109.out BK102.out (by decide))); replace HO106 := Aside0.mk (Kd.R_after (ok := (fun _ => True)) (qR HO106.out) hg hat); replace HB := Aside0.mk (hb); have HO139 := Aside0.mk (ho); clear HO109; clear ho hb hg hat; obtain ⟨hcz65_0, hcz65_1, hcz65_2, hcz65_3, hcz65_4, hcz65_5, hfz65_0, hfz65_1, hfz65_2, hfz65_3, hfz65_4, hfz65_5⟩ := blk6 BK102.out) | ((with_reducible refine gate_callee (f := 25) rfl ?_); refine goesL_ (some 70) rfl rfl Tryd.func25 (by kernel_rfl) rfl #[.int .i64 ((rd_T39 l0 x11_1).f1)] rfl qq0 ?_; (with_reducible refine (wire_one.calls ((rd_T39 l0 x11_1).f1) true _ A54.out).mono ?_); rintro e w' ⟨rfl, ⟨nd, rfl⟩⟩; refine ⟨_, rfl, ?_⟩))
          go_roundg k1
          case measure => have := HK1.out; omega
          case rel => exact ⟨(y137), (wrap64 ((wrap64 (16 * ((rd_T39 l0 x11_1).f1))) + ((rd_T39 l0 x11_1).f2))), (wrap64 (x11_1 + 1)), qq6, qq6, H', ⟨qqm⟩, ⟨qR (Kd.R_mono HO139.out (fun _ hk => trivial))⟩, ⟨qS1 GE102 HB.out⟩⟩
        replace c55 := Bool.eq_false_iff.mpr c55
        subst c55
        have H1 : (if y137.length < 140737488355328 then (wire_Encode.l0 k1 (y137 ++ [((rd_T39 l0 x11_1).f4) % 256]) (wrap64 ((wrap64 (16 * ((rd_T39 l0 x11_1).f1))) + ((rd_T39 l0 x11_1).f2))) l0 (l0.length : Int) (wrap64 (x11_1 + 1))) else (none)) = some (r1, r2) := by rw [if_neg (show ¬ (false = true) by decide)] at H; exact H
        clear H
        have H := H1
        clear H1
        by_cases c66 : y137.length < 140737488355328
        rotate_left
        · rw [if_neg c66] at H
          exact absurd H (by simp)
        rw [if_pos c66] at H
        have LMc66 := Aside0.mk c66
        clear c66
        obtain ⟨y141, hy141⟩ : ∃ y_ : List Int, y_ = (y137 ++ [((rd_T39 l0 x11_1).f4) % 256]) := ⟨_, rfl⟩
        replace H : (wire_Encode.l0 k1 y141 (wrap64 ((wrap64 (16 * ((rd_T39 l0 x11_1).f1))) + ((rd_T39 l0 x11_1).f2))) l0 (l0.length : Int) (wrap64 (x11_1 + 1))) = some (r1, r2) := by first | (rw [hy141]; with_reducible exact H) | (have H2_ := (Option.bind_some _ _).symm.trans H; rw [hy141]; with_reducible exact H2_) | (have H2_ := (Option.bind_some _ _).symm.trans H; with_reducible exact H2_) | with_reducible exact H | (rw [hy141]; exact H) | exact H
        have Ny141 := Aside0.mk hy141
        clear hy141
        have H' := Aside0.mk H
        clear H
        have p101 : 0 ≤ (x11_1 : Int) := of_decide_eq_true qq3
        have q101 : x11_1 < (l0.length : Int) := of_decide_eq_true qq3
        obtain ⟨ad101, e101, hx101_0, hx101_1, hx101_2, hx101_3, hx101_4, hx101_5⟩ := at_T39 HR0.out x11_1 p101 q101
        cases e101
        replace hx101_0 := (HB.out.cell (World.block_lt_of_cell? w _ hx101_0)).trans hx101_0
        replace hx101_1 := (HB.out.cell (World.block_lt_of_cell? w _ hx101_1)).trans hx101_1
        replace hx101_2 := (HB.out.cell (World.block_lt_of_cell? w _ hx101_2)).trans hx101_2
        replace hx101_3 := (HB.out.cell (World.block_lt_of_cell? w _ hx101_3)).trans hx101_3
        replace hx101_4 := (HB.out.cell (World.block_lt_of_cell? w _ hx101_4)).trans hx101_4
        replace hx101_5 := (HB.out.cell (World.block_lt_of_cell? w _ hx101_5)).trans hx101_5
        replace p101 := eq_true p101
        replace q101 := eq_true q101
        go_wp2_with (first | ((with_reducible refine gate_dst (N := 7) rfl ?_); refine box_event ?hg (N := 7) ?hd (cs := #[.int .i64 0, .int .i64 0, .int .i64 0, .int .i64 0, .int .i64 0, .string (⟨#[]⟩ : ByteArray)]) (t := 39) ?hr ?_; (case hd => rfl); (case hg => rfl); (case hr => exact qq8); intro gb102 hg w67 hbox hb; replace HO_4 := Aside0.mk (Kd.R_below (qR HO_4.out) hb); have BK102 := Aside0.mk (hbox); have GW102 := Aside0.mk ((qq7 : w.heap.size ≤ gb102)); have GE102 := Aside0.mk ((qq7 : w.heap.size ≤ gb102)); replace HB := Aside0.mk (below_step (qB HB.out) hb); clear hb hbox hg; obtain ⟨hcz68_0, hcz68_1, hcz68_2, hcz68_3, hcz68_4, hcz68_5, hfz68_0, hfz68_1, hfz68_2, hfz68_3, hfz68_4, hfz68_5⟩ := blk6 BK102.out) | ((with_reducible refine gate_callee (f := 23) rfl ?_); refine goesL_ (some 16) rfl rfl Tryd.func23 (by kernel_rfl) rfl #[.agg #[.int .i64 ((rd_T39 l0 x11_1).f0), .int .i64 ((rd_T39 l0 x11_1).f1), .int .i64 ((rd_T39 l0 x11_1).f2), .int .i64 ((rd_T39 l0 x11_1).f3), .int .i64 ((rd_T39 l0 x11_1).f4), .string ((rd_T39 l0 x11_1).f5)]] rfl qq0 ?_; (with_reducible refine (wire_Right.calls k1 ((rd_T39 l0 x11_1).f0) ((rd_T39 l0 x11_1).f1) ((rd_T39 l0 x11_1).f2) ((rd_T39 l0 x11_1).f3) ((rd_T39 l0 x11_1).f4) ((rd_T39 l0 x11_1).f5) true _ A5.out).mono ?_); rintro e w69 ⟨rfl, hb⟩; refine ⟨_, rfl, ?_⟩; replace HO_4 := Aside0.mk (Kd.R_below qq5 hb); replace BK102 := Aside0.mk (blk_below (g := gb102) (o := .cells #[.int .i64 ((rd_T39 l0 x11_1).f0), .int .i64 ((rd_T39 l0 x11_1).f1), .int .i64 ((rd_T39 l0 x11_1).f2), .int .i64 ((rd_T39 l0 x11_1).f3), .int .i64 ((rd_T39 l0 x11_1).f4), .string ((rd_T39 l0 x11_1).f5)] 39 (0, 0)) (by refine bq ?_; refine blk_put (cs := #[.int .i64 ((rd_T39 l0 x11_1).f0), .int .i64 ((rd_T39 l0 x11_1).f1), .int .i64 ((rd_T39 l0 x11_1).f2), .int .i64 ((rd_T39 l0 x11_1).f3), .int .i64 ((rd_T39 l0 x11_1).f4), .string (⟨#[]⟩ : ByteArray)]) ?_ 5 _ rfl; refine bq ?_; refine blk_put (cs := #[.int .i64 ((rd_T39 l0 x11_1).f0), .int .i64 ((rd_T39 l0 x11_1).f1), .int .i64 ((rd_T39 l0 x11_1).f2), .int .i64 ((rd_T39 l0 x11_1).f3), .int .i64 0, .string (⟨#[]⟩ : ByteArray)]) ?_ 4 _ rfl; refine bq ?_; refine blk_put (cs := #[.int .i64 ((rd_T39 l0 x11_1).f0), .int .i64 ((rd_T39 l0 x11_1).f1), .int .i64 ((rd_T39 l0 x11_1).f2), .int .i64 0, .int .i64 0, .string (⟨#[]⟩ : ByteArray)]) ?_ 3 _ rfl; refine bq ?_; refine blk_put (cs := #[.int .i64 ((rd_T39 l0 x11_1).f0), .int .i64 ((rd_T39 l0 x11_1).f1), .int .i64 0, .int .i64 0, .int .i64 0, .string (⟨#[]⟩ : ByteArray)]) ?_ 2 _ rfl; refine bq ?_; refine blk_put (cs := #[.int .i64 ((rd_T39 l0 x11_1).f0), .int .i64 0, .int .i64 0, .int .i64 0, .int .i64 0, .string (⟨#[]⟩ : ByteArray)]) ?_ 1 _ rfl; refine bq ?_; refine blk_put (cs := #[.int .i64 0, .int .i64 0, .int .i64 0, .int .i64 0, .int .i64 0, .string (⟨#[]⟩ : ByteArray)]) ?_ 0 _ rfl; exact bq BK102.out) hb); replace HB := Aside0.mk (below_step (qS1 GE102 HB.out) hb); (try clear hb); (try clear hb2); (try clear hk); (try clear hi); obtain ⟨hcz70_0, hcz70_1, hcz70_2, hcz70_3, hcz70_4, hcz70_5, hfz70_0, hfz70_1, hfz70_2, hfz70_3, hfz70_4, hfz70_5⟩ := blk6 BK102.out) | ((with_reducible refine gate_callee (f := 24) rfl ?_); refine goesL_ (some 21) rfl rfl Tryd.func24 (by kernel_rfl) rfl #[.int .i64 ((rd_T39 l0 x11_1).f0)] rfl qq0 ?_; (with_reducible refine (wire_number.calls ((rd_T39 l0 x11_1).f0) t104 _ A7.out).mono ?_); rintro e w71 ⟨v105, rfl, ho0, hb⟩; refine ⟨_, rfl, ?_⟩; have HO106 := Aside0.mk (Kd.R_lower (Kd.R_new' ho0 (Kd.R_lt (qR HO_4.out))) (below_size (qS1 GE102 HB.out))); replace HO_4 := Aside0.mk (Kd.R_elder' (qR HO_4.out) (Kd.R_base ho0) hb); replace BK102 := Aside0.mk (blk_below (bq BK102.out) hb); replace HB := Aside0.mk (below_step (qS1 GE102 HB.out) hb); (try clear hb); (try clear hb2); (try clear hk); (try clear hi); (try clear ho0); obtain ⟨Ao73, co73, eo73⟩ := Kd.R_slice HO106.out; subst eo73) | ((with_reducible refine gate_builtin (b := .append) (xs := #[.tmp 18, .tmp 21]) rfl ?_); at_builtin; refine Kd.R_append_rows (Kd.int .u8) (w0 := w) w.heap.size rfl (.tmp 18) (.tmp 21) 56 5 (.int .u8 0) 1 rfl Tryd.underlying56 info5 rfl (by decide) (by omega) u4 x4_1 t104 _ _ _ (fun k_ => some k_ ≠ (.slice Ao73 t104.length co73 : Value).ownBlock) (fun _ => False) rfl rfl ?aO ?aR (fun _ _ h => h) (fun _ h => h.elim) ?aF ?aB ?aS ?aL ?_; (case aR => repeat (first | exact (Kd.R_reads' HO106.out).2.2 | (with_reducible refine Kd.C_alloc ?_ _) | (with_reducible refine Kd.C_drewN ?_ _) | (with_reducible refine Kd.C_drew ?_))); (case aB => exact qqn); (case aF => exact qqa); (case aO => exact qqb); (case aS => exact qqf); (case aL => have := LMc8.out; omega); intro v108 w72 ho hb hg hat; rw [← Ny107.out] at ho; replace BK102 := Aside0.mk (blk_grown (bq BK102.out) hg (Kd.R_ne HO_4.out BK102.out (by decide))); replace HO106 := Aside0.mk (Kd.R_after (ok := (fun _ => True)) (qR HO106.out) hg hat); replace HB := Aside0.mk (hb); have HO109 := Aside0.mk (ho); clear HO_4; clear ho hb hg hat; obtain ⟨hcz74_0, hcz74_1, hcz74_2, hcz74_3, hcz74_4, hcz74_5, hfz74_0, hfz74_1, hfz74_2, hfz74_3, hfz74_4, hfz74_5⟩ := blk6 BK102.out) | ((with_reducible refine gate_builtin (b := .append) (xs := #[.tmp 62, .tmp 66]) rfl ?_); at_builtin; refine Kd.R_append (Kd.int .u8) (w0 := w) w.heap.size rfl (.tmp 62) (.tmp 66) 56 5 (.int .u8 0) 1 rfl Tryd.underlying56 info5 rfl (by decide) (by omega) v108 y107 (((rd_T39 l0 x11_1).f3) % 256) [.int .u8 (((rd_T39 l0 x11_1).f3) % 256)] (fun k_ => some k_ ≠ (.slice Ao73 t104.length co73 : Value).ownBlock) (fun _ => False) rfl rfl ?aP (fun _ hk => hk.elim) ?aF ?aO ?aB ?aS ?aL ?_; (case aP => exact rfl); (case aB => exact qqn); (case aF => exact qqa); (case aO => exact (qR HO109.out)); (case aS => exact qqf); (case aL => have := LMc53.out; omega); intro v138 w75 ho hb hg hat; rw [← Ny137.out] at ho; replace BK102 := Aside0.mk (blk_grown (bq BK102.out) hg (Kd.R_ne HO109.out BK102.out (by decide))); replace HO106 := Aside0.mk (Kd.R_after (ok := (fun _ => True)) (qR HO106.out) hg hat); replace HB := Aside0.mk (hb); have HO139 := Aside0.mk (ho); clear HO109; clear ho hb hg hat; obtain ⟨hcz76_0, hcz76_1, hcz76_2, hcz76_3, hcz76_4, hcz76_5, hfz76_0, hfz76_1, hfz76_2, hfz76_3, hfz76_4, hfz76_5⟩ := blk6 BK102.out) | ((with_reducible refine gate_callee (f := 25) rfl ?_); refine goesL_ (some 70) rfl rfl Tryd.func25 (by kernel_rfl) rfl #[.int .i64 ((rd_T39 l0 x11_1).f1)] rfl qq0 ?_; (with_reducible refine (wire_one.calls ((rd_T39 l0 x11_1).f1) false _ A54.out).mono ?_); rintro e w' ⟨rfl, ⟨nd, rfl⟩⟩; refine ⟨_, rfl, ?_⟩) | ((with_reducible refine gate_builtin (b := .append) (xs := #[.tmp 72, .tmp 76]) rfl ?_); at_builtin; refine Kd.R_append (Kd.int .u8) (w0 := w) w.heap.size rfl (.tmp 72) (.tmp 76) 56 5 (.int .u8 0) 1 rfl Tryd.underlying56 info5 rfl (by decide) (by omega) v138 y137 (((rd_T39 l0 x11_1).f4) % 256) [.int .u8 (((rd_T39 l0 x11_1).f4) % 256)] (fun k_ => some k_ ≠ (.slice Ao73 t104.length co73 : Value).ownBlock) (fun _ => False) rfl rfl ?aP (fun _ hk => hk.elim) ?aF ?aO ?aB ?aS ?aL ?_; (case aP => exact rfl); (case aB => exact qqn); (case aF => exact qqa); (case aO => exact (qR HO139.out)); (case aS => exact qqf); (case aL => have := LMc66.out; omega); intro v142 w77 ho hb hg hat; rw [← Ny141.out] at ho; replace BK102 := Aside0.mk (blk_grown (bq BK102.out) hg (Kd.R_ne HO139.out BK102.out (by decide))); replace HO106 := Aside0.mk (Kd.R_after (ok := (fun _ => True)) (qR HO106.out) hg hat); replace HB := Aside0.mk (hb); have HO143 := Aside0.mk (ho); clear HO139; clear ho hb hg hat))
        go_roundg k1
        case measure => have := HK1.out; omega
        case rel => exact ⟨(y141), (wrap64 ((wrap64 (16 * ((rd_T39 l0 x11_1).f1))) + ((rd_T39 l0 x11_1).f2))), (wrap64 (x11_1 + 1)), qq6, qq6, H', ⟨qqm⟩, ⟨qR (Kd.R_mono HO143.out (fun _ hk => trivial))⟩, ⟨qS1 GE102 HB.out⟩⟩
      rw [if_neg c52] at H
      have c52b0 : ((wrap64 ((wrap64 (16 * ((rd_T39 l0 x11_1).f1))) + ((rd_T39 l0 x11_1).f2))) == x5_1) = false := beq_eq_false_iff_ne.mpr c52
      have c52b1 : ((wrap64 ((wrap64 (16 * ((rd_T39 l0 x11_1).f1))) + ((rd_T39 l0 x11_1).f2))) != x5_1) = true := bne_iff_ne.mpr c52
      by_cases c78 : y107.length < 140737488355328
      rotate_left
      · rw [if_neg c78] at H
        exact absurd H (by simp)
      rw [if_pos c78] at H
      have LMc78 := Aside0.mk c78
      clear c78
      obtain ⟨y144, hy144⟩ : ∃ y_ : List Int, y_ = (y107 ++ [(wrap64 ((wrap64 (16 * ((rd_T39 l0 x11_1).f1))) + ((rd_T39 l0 x11_1).f2))) % 256]) := ⟨_, rfl⟩
      replace H : (if y144.length < 140737488355328 then ((some (y144 ++ [((rd_T39 l0 x11_1).f3) % 256] : List Int)).bind fun y147 => ((wire_one.f ((rd_T39 l0 x11_1).f1)).bind fun t150 => (if t150 = true then (wire_Encode.l0 k1 y147 (wrap64 ((wrap64 (16 * ((rd_T39 l0 x11_1).f1))) + ((rd_T39 l0 x11_1).f2))) l0 (l0.length : Int) (wrap64 (x11_1 + 1))) else (if y147.length < 140737488355328 then (wire_Encode.l0 k1 (y147 ++ [((rd_T39 l0 x11_1).f4) % 256]) (wrap64 ((wrap64 (16 * ((rd_T39 l0 x11_1).f1))) + ((rd_T39 l0 x11_1).f2))) l0 (l0.length : Int) (wrap64 (x11_1 + 1))) else (none))))) else (none)) = some (r1, r2) := by first | (rw [hy144]; with_reducible exact H) | (have H2_ := (Option.bind_some _ _).symm.trans H; rw [hy144]; with_reducible exact H2_) | (have H2_ := (Option.bind_some _ _).symm.trans H; with_reducible exact H2_) | with_reducible exact H | (rw [hy144]; exact H) | exact H
      have Ny144 := Aside0.mk hy144
      clear hy144
      by_cases c79 : y144.length < 140737488355328
      rotate_left
      · rw [if_neg c79] at H
        exact absurd H (by simp)
      rw [if_pos c79] at H
      have LMc79 := Aside0.mk c79
      clear c79
      obtain ⟨y147, hy147⟩ : ∃ y_ : List Int, y_ = (y144 ++ [((rd_T39 l0 x11_1).f3) % 256]) := ⟨_, rfl⟩
      replace H : ((wire_one.f ((rd_T39 l0 x11_1).f1)).bind fun t150 => (if t150 = true then (wire_Encode.l0 k1 y147 (wrap64 ((wrap64 (16 * ((rd_T39 l0 x11_1).f1))) + ((rd_T39 l0 x11_1).f2))) l0 (l0.length : Int) (wrap64 (x11_1 + 1))) else (if y147.length < 140737488355328 then (wire_Encode.l0 k1 (y147 ++ [((rd_T39 l0 x11_1).f4) % 256]) (wrap64 ((wrap64 (16 * ((rd_T39 l0 x11_1).f1))) + ((rd_T39 l0 x11_1).f2))) l0 (l0.length : Int) (wrap64 (x11_1 + 1))) else (none)))) = some (r1, r2) := by first | (rw [hy147]; with_reducible exact H) | (have H2_ := (Option.bind_some _ _).symm.trans H; rw [hy147]; with_reducible exact H2_) | (have H2_ := (Option.bind_some _ _).symm.trans H; with_reducible exact H2_) | with_reducible exact H | (rw [hy147]; exact H) | exact H
      have Ny147 := Aside0.mk hy147
      clear hy147
      replace H := Option.bind_eq_some_iff.mp H
      obtain ⟨t150, A800, H⟩ := H
      try dsimp -simprocs only at H
      have A80 := Aside0.mk A800
      clear A800
      by_cases c81 : t150 = true
      · subst c81
        have H1 : (wire_Encode.l0 k1 y147 (wrap64 ((wrap64 (16 * ((rd_T39 l0 x11_1).f1))) + ((rd_T39 l0 x11_1).f2))) l0 (l0.length : Int) (wrap64 (x11_1 + 1))) = some (r1, r2) := by rw [if_pos rfl] at H; exact H
        clear H
        have H := H1
        clear H1
        have H' := Aside0.mk H
        clear H
        have p101 : 0 ≤ (x11_1 : Int) := of_decide_eq_true qq3
        have q101 : x11_1 < (l0.length : Int) := of_decide_eq_true qq3
        obtain ⟨ad101, e101, hx101_0, hx101_1, hx101_2, hx101_3, hx101_4, hx101_5⟩ := at_T39 HR0.out x11_1 p101 q101
        cases e101
        replace hx101_0 := (HB.out.cell (World.block_lt_of_cell? w _ hx101_0)).trans hx101_0
        replace hx101_1 := (HB.out.cell (World.block_lt_of_cell? w _ hx101_1)).trans hx101_1
        replace hx101_2 := (HB.out.cell (World.block_lt_of_cell? w _ hx101_2)).trans hx101_2
        replace hx101_3 := (HB.out.cell (World.block_lt_of_cell? w _ hx101_3)).trans hx101_3
        replace hx101_4 := (HB.out.cell (World.block_lt_of_cell? w _ hx101_4)).trans hx101_4
        replace hx101_5 := (HB.out.cell (World.block_lt_of_cell? w _ hx101_5)).trans hx101_5
        replace p101 := eq_true p101
        replace q101 := eq_true q101
        go_wp2_with (first | ((with_reducible refine gate_dst (N := 7) rfl ?_); refine box_event ?hg (N := 7) ?hd (cs := #[.int .i64 0, .int .i64 0, .int .i64 0, .int .i64 0, .int .i64 0, .string (⟨#[]⟩ : ByteArray)]) (t := 39) ?hr ?_; (case hd => rfl); (case hg => rfl); (case hr => exact qq8); intro gb102 hg w82 hbox hb; replace HO_4 := Aside0.mk (Kd.R_below (qR HO_4.out) hb); have BK102 := Aside0.mk (hbox); have GW102 := Aside0.mk ((qq7 : w.heap.size ≤ gb102)); have GE102 := Aside0.mk ((qq7 : w.heap.size ≤ gb102)); replace HB := Aside0.mk (below_step (qB HB.out) hb); clear hb hbox hg; obtain ⟨hcz83_0, hcz83_1, hcz83_2, hcz83_3, hcz83_4, hcz83_5, hfz83_0, hfz83_1, hfz83_2, hfz83_3, hfz83_4, hfz83_5⟩ := blk6 BK102.out) | ((with_reducible refine gate_callee (f := 23) rfl ?_); refine goesL_ (some 16) rfl rfl Tryd.func23 (by kernel_rfl) rfl #[.agg #[.int .i64 ((rd_T39 l0 x11_1).f0), .int .i64 ((rd_T39 l0 x11_1).f1), .int .i64 ((rd_T39 l0 x11_1).f2), .int .i64 ((rd_T39 l0 x11_1).f3), .int .i64 ((rd_T39 l0 x11_1).f4), .string ((rd_T39 l0 x11_1).f5)]] rfl qq0 ?_; (with_reducible refine (wire_Right.calls k1 ((rd_T39 l0 x11_1).f0) ((rd_T39 l0 x11_1).f1) ((rd_T39 l0 x11_1).f2) ((rd_T39 l0 x11_1).f3) ((rd_T39 l0 x11_1).f4) ((rd_T39 l0 x11_1).f5) true _ A5.out).mono ?_); rintro e w84 ⟨rfl, hb⟩; refine ⟨_, rfl, ?_⟩; replace HO_4 := Aside0.mk (Kd.R_below qq5 hb); replace BK102 := Aside0.mk (blk_below (g := gb102) (o := .cells #[.int .i64 ((rd_T39 l0 x11_1).f0), .int .i64 ((rd_T39 l0 x11_1).f1), .int .i64 ((rd_T39 l0 x11_1).f2), .int .i64 ((rd_T39 l0 x11_1).f3), .int .i64 ((rd_T39 l0 x11_1).f4), .string ((rd_T39 l0 x11_1).f5)] 39 (0, 0)) (by refine bq ?_; refine blk_put (cs := #[.int .i64 ((rd_T39 l0 x11_1).f0), .int .i64 ((rd_T39 l0 x11_1).f1), .int .i64 ((rd_T39 l0 x11_1).f2), .int .i64 ((rd_T39 l0 x11_1).f3), .int .i64 ((rd_T39 l0 x11_1).f4), .string (⟨#[]⟩ : ByteArray)]) ?_ 5 _ rfl; refine bq ?_; refine blk_put (cs := #[.int .i64 ((rd_T39 l0 x11_1).f0), .int .i64 ((rd_T39 l0 x11_1).f1), .int .i64 ((rd_T39 l0 x11_1).f2), .int .i64 ((rd_T39 l0 x11_1).f3), .int .i64 0, .string (⟨#[]⟩ : ByteArray)]) ?_ 4 _ rfl; refine bq ?_; refine blk_put (cs := #[.int .i64 ((rd_T39 l0 x11_1).f0), .int .i64 ((rd_T39 l0 x11_1).f1), .int .i64 ((rd_T39 l0 x11_1).f2), .int .i64 0, .int .i64 0, .string (⟨#[]⟩ : ByteArray)]) ?_ 3 _ rfl; refine bq ?_; refine blk_put (cs := #[.int .i64 ((rd_T39 l0 x11_1).f0), .int .i64 ((rd_T39 l0 x11_1).f1), .int .i64 0, .int .i64 0, .int .i64 0, .string (⟨#[]⟩ : ByteArray)]) ?_ 2 _ rfl; refine bq ?_; refine blk_put (cs := #[.int .i64 ((rd_T39 l0 x11_1).f0), .int .i64 0, .int .i64 0, .int .i64 0, .int .i64 0, .string (⟨#[]⟩ : ByteArray)]) ?_ 1 _ rfl; refine bq ?_; refine blk_put (cs := #[.int .i64 0, .int .i64 0, .int .i64 0, .int .i64 0, .int .i64 0, .string (⟨#[]⟩ : ByteArray)]) ?_ 0 _ rfl; exact bq BK102.out) hb); replace HB := Aside0.mk (below_step (qS1 GE102 HB.out) hb); (try clear hb); (try clear hb2); (try clear hk); (try clear hi); obtain ⟨hcz85_0, hcz85_1, hcz85_2, hcz85_3, hcz85_4, hcz85_5, hfz85_0, hfz85_1, hfz85_2, hfz85_3, hfz85_4, hfz85_5⟩ := blk6 BK102.out) | ((with_reducible refine gate_callee (f := 24) rfl ?_); refine goesL_ (some 21) rfl rfl Tryd.func24 (by kernel_rfl) rfl #[.int .i64 ((rd_T39 l0 x11_1).f0)] rfl qq0 ?_; (with_reducible refine (wire_number.calls ((rd_T39 l0 x11_1).f0) t104 _ A7.out).mono ?_); rintro e w86 ⟨v105, rfl, ho0, hb⟩; refine ⟨_, rfl, ?_⟩; have HO106 := Aside0.mk (Kd.R_lower (Kd.R_new' ho0 (Kd.R_lt (qR HO_4.out))) (below_size (qS1 GE102 HB.out))); replace HO_4 := Aside0.mk (Kd.R_elder' (qR HO_4.out) (Kd.R_base ho0) hb); replace BK102 := Aside0.mk (blk_below (bq BK102.out) hb); replace HB := Aside0.mk (below_step (qS1 GE102 HB.out) hb); (try clear hb); (try clear hb2); (try clear hk); (try clear hi); (try clear ho0); obtain ⟨Ao88, co88, eo88⟩ := Kd.R_slice HO106.out; subst eo88) | ((with_reducible refine gate_builtin (b := .append) (xs := #[.tmp 18, .tmp 21]) rfl ?_); at_builtin; refine Kd.R_append_rows (Kd.int .u8) (w0 := w) w.heap.size rfl (.tmp 18) (.tmp 21) 56 5 (.int .u8 0) 1 rfl Tryd.underlying56 info5 rfl (by decide) (by omega) u4 x4_1 t104 _ _ _ (fun k_ => some k_ ≠ (.slice Ao88 t104.length co88 : Value).ownBlock) (fun _ => False) rfl rfl ?aO ?aR (fun _ _ h => h) (fun _ h => h.elim) ?aF ?aB ?aS ?aL ?_; (case aR => repeat (first | exact (Kd.R_reads' HO106.out).2.2 | (with_reducible refine Kd.C_alloc ?_ _) | (with_reducible refine Kd.C_drewN ?_ _) | (with_reducible refine Kd.C_drew ?_))); (case aB => exact qqn); (case aF => exact qqa); (case aO => exact qqb); (case aS => exact qqf); (case aL => have := LMc8.out; omega); intro v108 w87 ho hb hg hat; rw [← Ny107.out] at ho; replace BK102 := Aside0.mk (blk_grown (bq BK102.out) hg (Kd.R_ne HO_4.out BK102.out (by decide))); replace HO106 := Aside0.mk (Kd.R_after (ok := (fun _ => True)) (qR HO106.out) hg hat); replace HB := Aside0.mk (hb); have HO109 := Aside0.mk (ho); clear HO_4; clear ho hb hg hat; obtain ⟨hcz89_0, hcz89_1, hcz89_2, hcz89_3, hcz89_4, hcz89_5, hfz89_0, hfz89_1, hfz89_2, hfz89_3, hfz89_4, hfz89_5⟩ := blk6 BK102.out) | ((with_reducible refine gate_builtin (b := .append) (xs := #[.tmp 57, .tmp 60]) rfl ?_); at_builtin; refine Kd.R_append (Kd.int .u8) (w0 := w) w.heap.size rfl (.tmp 57) (.tmp 60) 56 5 (.int .u8 0) 1 rfl Tryd.underlying56 info5 rfl (by decide) (by omega) v108 y107 ((wrap64 ((wrap64 (16 * ((rd_T39 l0 x11_1).f1))) + ((rd_T39 l0 x11_1).f2))) % 256) [.int .u8 ((wrap64 ((wrap64 (16 * ((rd_T39 l0 x11_1).f1))) + ((rd_T39 l0 x11_1).f2))) % 256)] (fun k_ => some k_ ≠ (.slice Ao88 t104.length co88 : Value).ownBlock) (fun _ => False) rfl rfl ?aP (fun _ hk => hk.elim) ?aF ?aO ?aB ?aS ?aL ?_; (case aP => exact rfl); (case aB => exact qqn); (case aF => exact qqa); (case aO => exact (qR HO109.out)); (case aS => exact qqf); (case aL => have := LMc78.out; omega); intro v145 w90 ho hb hg hat; rw [← Ny144.out] at ho; replace BK102 := Aside0.mk (blk_grown (bq BK102.out) hg (Kd.R_ne HO109.out BK102.out (by decide))); replace HO106 := Aside0.mk (Kd.R_after (ok := (fun _ => True)) (qR HO106.out) hg hat); replace HB := Aside0.mk (hb); have HO146 := Aside0.mk (ho); clear HO109; clear ho hb hg hat; obtain ⟨hcz91_0, hcz91_1, hcz91_2, hcz91_3, hcz91_4, hcz91_5, hfz91_0, hfz91_1, hfz91_2, hfz91_3, hfz91_4, hfz91_5⟩ := blk6 BK102.out) | ((with_reducible refine gate_builtin (b := .append) (xs := #[.tmp 62, .tmp 66]) rfl ?_); at_builtin; refine Kd.R_append (Kd.int .u8) (w0 := w) w.heap.size rfl (.tmp 62) (.tmp 66) 56 5 (.int .u8 0) 1 rfl Tryd.underlying56 info5 rfl (by decide) (by omega) v145 y144 (((rd_T39 l0 x11_1).f3) % 256) [.int .u8 (((rd_T39 l0 x11_1).f3) % 256)] (fun k_ => some k_ ≠ (.slice Ao88 t104.length co88 : Value).ownBlock) (fun _ => False) rfl rfl ?aP (fun _ hk => hk.elim) ?aF ?aO ?aB ?aS ?aL ?_; (case aP => exact rfl); (case aB => exact qqn); (case aF => exact qqa); (case aO => exact (qR HO146.out)); (case aS => exact qqf); (case aL => have := LMc79.out; omega); intro v148 w92 ho hb hg hat; rw [← Ny147.out] at ho; replace BK102 := Aside0.mk (blk_grown (bq BK102.out) hg (Kd.R_ne HO146.out BK102.out (by decide))); replace HO106 := Aside0.mk (Kd.R_after (ok := (fun _ => True)) (qR HO106.out) hg hat); replace HB := Aside0.mk (hb); have HO149 := Aside0.mk (ho); clear HO146; clear ho hb hg hat; obtain ⟨hcz93_0, hcz93_1, hcz93_2, hcz93_3, hcz93_4, hcz93_5, hfz93_0, hfz93_1, hfz93_2, hfz93_3, hfz93_4, hfz93_5⟩ := blk6 BK102.out) | ((with_reducible refine gate_callee (f := 25) rfl ?_); refine goesL_ (some 70) rfl rfl Tryd.func25 (by kernel_rfl) rfl #[.int .i64 ((rd_T39 l0 x11_1).f1)] rfl qq0 ?_; (with_reducible refine (wire_one.calls ((rd_T39 l0 x11_1).f1) true _ A80.out).mono ?_); rintro e w' ⟨rfl, ⟨nd, rfl⟩⟩; refine ⟨_, rfl, ?_⟩))
        go_roundg k1
        case measure => have := HK1.out; omega
        case rel => exact ⟨(y147), (wrap64 ((wrap64 (16 * ((rd_T39 l0 x11_1).f1))) + ((rd_T39 l0 x11_1).f2))), (wrap64 (x11_1 + 1)), qq6, qq6, H', ⟨qqm⟩, ⟨qR (Kd.R_mono HO149.out (fun _ hk => trivial))⟩, ⟨qS1 GE102 HB.out⟩⟩
      replace c81 := Bool.eq_false_iff.mpr c81
      subst c81
      have H1 : (if y147.length < 140737488355328 then (wire_Encode.l0 k1 (y147 ++ [((rd_T39 l0 x11_1).f4) % 256]) (wrap64 ((wrap64 (16 * ((rd_T39 l0 x11_1).f1))) + ((rd_T39 l0 x11_1).f2))) l0 (l0.length : Int) (wrap64 (x11_1 + 1))) else (none)) = some (r1, r2) := by rw [if_neg (show ¬ (false = true) by decide)] at H; exact H
      clear H
      have H := H1
      clear H1
      by_cases c94 : y147.length < 140737488355328
      rotate_left
      · rw [if_neg c94] at H
        exact absurd H (by simp)
      rw [if_pos c94] at H
      have LMc94 := Aside0.mk c94
      clear c94
      obtain ⟨y151, hy151⟩ : ∃ y_ : List Int, y_ = (y147 ++ [((rd_T39 l0 x11_1).f4) % 256]) := ⟨_, rfl⟩
      replace H : (wire_Encode.l0 k1 y151 (wrap64 ((wrap64 (16 * ((rd_T39 l0 x11_1).f1))) + ((rd_T39 l0 x11_1).f2))) l0 (l0.length : Int) (wrap64 (x11_1 + 1))) = some (r1, r2) := by first | (rw [hy151]; with_reducible exact H) | (have H2_ := (Option.bind_some _ _).symm.trans H; rw [hy151]; with_reducible exact H2_) | (have H2_ := (Option.bind_some _ _).symm.trans H; with_reducible exact H2_) | with_reducible exact H | (rw [hy151]; exact H) | exact H
      have Ny151 := Aside0.mk hy151
      clear hy151
      have H' := Aside0.mk H
      clear H
      have p101 : 0 ≤ (x11_1 : Int) := of_decide_eq_true qq3
      have q101 : x11_1 < (l0.length : Int) := of_decide_eq_true qq3
      obtain ⟨ad101, e101, hx101_0, hx101_1, hx101_2, hx101_3, hx101_4, hx101_5⟩ := at_T39 HR0.out x11_1 p101 q101
      cases e101
      replace hx101_0 := (HB.out.cell (World.block_lt_of_cell? w _ hx101_0)).trans hx101_0
      replace hx101_1 := (HB.out.cell (World.block_lt_of_cell? w _ hx101_1)).trans hx101_1
      replace hx101_2 := (HB.out.cell (World.block_lt_of_cell? w _ hx101_2)).trans hx101_2
      replace hx101_3 := (HB.out.cell (World.block_lt_of_cell? w _ hx101_3)).trans hx101_3
      replace hx101_4 := (HB.out.cell (World.block_lt_of_cell? w _ hx101_4)).trans hx101_4
      replace hx101_5 := (HB.out.cell (World.block_lt_of_cell? w _ hx101_5)).trans hx101_5
      replace p101 := eq_true p101
      replace q101 := eq_true q101
      go_wp2_with (first | ((with_reducible refine gate_dst (N := 7) rfl ?_); refine box_event ?hg (N := 7) ?hd (cs := #[.int .i64 0, .int .i64 0, .int .i64 0, .int .i64 0, .int .i64 0, .string (⟨#[]⟩ : ByteArray)]) (t := 39) ?hr ?_; (case hd => rfl); (case hg => rfl); (case hr => exact qq8); intro gb102 hg w95 hbox hb; replace HO_4 := Aside0.mk (Kd.R_below (qR HO_4.out) hb); have BK102 := Aside0.mk (hbox); have GW102 := Aside0.mk ((qq7 : w.heap.size ≤ gb102)); have GE102 := Aside0.mk ((qq7 : w.heap.size ≤ gb102)); replace HB := Aside0.mk (below_step (qB HB.out) hb); clear hb hbox hg; obtain ⟨hcz96_0, hcz96_1, hcz96_2, hcz96_3, hcz96_4, hcz96_5, hfz96_0, hfz96_1, hfz96_2, hfz96_3, hfz96_4, hfz96_5⟩ := blk6 BK102.out) | ((with_reducible refine gate_callee (f := 23) rfl ?_); refine goesL_ (some 16) rfl rfl Tryd.func23 (by kernel_rfl) rfl #[.agg #[.int .i64 ((rd_T39 l0 x11_1).f0), .int .i64 ((rd_T39 l0 x11_1).f1), .int .i64 ((rd_T39 l0 x11_1).f2), .int .i64 ((rd_T39 l0 x11_1).f3), .int .i64 ((rd_T39 l0 x11_1).f4), .string ((rd_T39 l0 x11_1).f5)]] rfl qq0 ?_; (with_reducible refine (wire_Right.calls k1 ((rd_T39 l0 x11_1).f0) ((rd_T39 l0 x11_1).f1) ((rd_T39 l0 x11_1).f2) ((rd_T39 l0 x11_1).f3) ((rd_T39 l0 x11_1).f4) ((rd_T39 l0 x11_1).f5) true _ A5.out).mono ?_); rintro e w97 ⟨rfl, hb⟩; refine ⟨_, rfl, ?_⟩; replace HO_4 := Aside0.mk (Kd.R_below qq5 hb); replace BK102 := Aside0.mk (blk_below (g := gb102) (o := .cells #[.int .i64 ((rd_T39 l0 x11_1).f0), .int .i64 ((rd_T39 l0 x11_1).f1), .int .i64 ((rd_T39 l0 x11_1).f2), .int .i64 ((rd_T39 l0 x11_1).f3), .int .i64 ((rd_T39 l0 x11_1).f4), .string ((rd_T39 l0 x11_1).f5)] 39 (0, 0)) (by refine bq ?_; refine blk_put (cs := #[.int .i64 ((rd_T39 l0 x11_1).f0), .int .i64 ((rd_T39 l0 x11_1).f1), .int .i64 ((rd_T39 l0 x11_1).f2), .int .i64 ((rd_T39 l0 x11_1).f3), .int .i64 ((rd_T39 l0 x11_1).f4), .string (⟨#[]⟩ : ByteArray)]) ?_ 5 _ rfl; refine bq ?_; refine blk_put (cs := #[.int .i64 ((rd_T39 l0 x11_1).f0), .int .i64 ((rd_T39 l0 x11_1).f1), .int .i64 ((rd_T39 l0 x11_1).f2), .int .i64 ((rd_T39 l0 x11_1).f3), .int .i64 0, .string (⟨#[]⟩ : ByteArray)]) ?_ 4 _ rfl; refine bq ?_; refine blk_put (cs := #[.int .i64 ((rd_T39 l0 x11_1).f0), .int .i64 ((rd_T39 l0 x11_1).f1), .int .i64 ((rd_T39 l0 x11_1).f2), .int .i64 0, .int .i64 0, .string (⟨#[]⟩ : ByteArray)]) ?_ 3 _ rfl; refine bq ?_; refine blk_put (cs := #[.int .i64 ((rd_T39 l0 x11_1).f0), .int .i64 ((rd_T39 l0 x11_1).f1), .int .i64 0, .int .i64 0, .int .i64 0, .string (⟨#[]⟩ : ByteArray)]) ?_ 2 _ rfl; refine bq ?_; refine blk_put (cs := #[.int .i64 ((rd_T39 l0 x11_1).f0), .int .i64 0, .int .i64 0, .int .i64 0, .int .i64 0, .string (⟨#[]⟩ : ByteArray)]) ?_ 1 _ rfl; refine bq ?_; refine blk_put (cs := #[.int .i64 0, .int .i64 0, .int .i64 0, .int .i64 0, .int .i64 0, .string (⟨#[]⟩ : ByteArray)]) ?_ 0 _ rfl; exact bq BK102.out) hb); replace HB := Aside0.mk (below_step (qS1 GE102 HB.out) hb); (try clear hb); (try clear hb2); (try clear hk); (try clear hi); obtain ⟨hcz98_0, hcz98_1, hcz98_2, hcz98_3, hcz98_4, hcz98_5, hfz98_0, hfz98_1, hfz98_2, hfz98_3, hfz98_4, hfz98_5⟩ := blk6 BK102.out) | ((with_reducible refine gate_callee (f := 24) rfl ?_); refine goesL_ (some 21) rfl rfl Tryd.func24 (by kernel_rfl) rfl #[.int .i64 ((rd_T39 l0 x11_1).f0)] rfl qq0 ?_; (with_reducible refine (wire_number.calls ((rd_T39 l0 x11_1).f0) t104 _ A7.out).mono ?_); rintro e w99 ⟨v105, rfl, ho0, hb⟩; refine ⟨_, rfl, ?_⟩; have HO106 := Aside0.mk (Kd.R_lower (Kd.R_new' ho0 (Kd.R_lt (qR HO_4.out))) (below_size (qS1 GE102 HB.out))); replace HO_4 := Aside0.mk (Kd.R_elder' (qR HO_4.out) (Kd.R_base ho0) hb); replace BK102 := Aside0.mk (blk_below (bq BK102.out) hb); replace HB := Aside0.mk (below_step (qS1 GE102 HB.out) hb); (try clear hb); (try clear hb2); (try clear hk); (try clear hi); (try clear ho0); obtain ⟨Ao101, co101, eo101⟩ := Kd.R_slice HO106.out; subst eo101) | ((with_reducible refine gate_builtin (b := .append) (xs := #[.tmp 18, .tmp 21]) rfl ?_); at_builtin; refine Kd.R_append_rows (Kd.int .u8) (w0 := w) w.heap.size rfl (.tmp 18) (.tmp 21) 56 5 (.int .u8 0) 1 rfl Tryd.underlying56 info5 rfl (by decide) (by omega) u4 x4_1 t104 _ _ _ (fun k_ => some k_ ≠ (.slice Ao101 t104.length co101 : Value).ownBlock) (fun _ => False) rfl rfl ?aO ?aR (fun _ _ h => h) (fun _ h => h.elim) ?aF ?aB ?aS ?aL ?_; (case aR => repeat (first | exact (Kd.R_reads' HO106.out).2.2 | (with_reducible refine Kd.C_alloc ?_ _) | (with_reducible refine Kd.C_drewN ?_ _) | (with_reducible refine Kd.C_drew ?_))); (case aB => exact qqn); (case aF => exact qqa); (case aO => exact qqb); (case aS => exact qqf); (case aL => have := LMc8.out; omega); intro v108 w100 ho hb hg hat; rw [← Ny107.out] at ho; replace BK102 := Aside0.mk (blk_grown (bq BK102.out) hg (Kd.R_ne HO_4.out BK102.out (by decide))); replace HO106 := Aside0.mk (Kd.R_after (ok := (fun _ => True)) (qR HO106.out) hg hat); replace HB := Aside0.mk (hb); have HO109 := Aside0.mk (ho); clear HO_4; clear ho hb hg hat; obtain ⟨hcz102_0, hcz102_1, hcz102_2, hcz102_3, hcz102_4, hcz102_5, hfz102_0, hfz102_1, hfz102_2, hfz102_3, hfz102_4, hfz102_5⟩ := blk6 BK102.out) | ((with_reducible refine gate_builtin (b := .append) (xs := #[.tmp 57, .tmp 60]) rfl ?_); at_builtin; refine Kd.R_append (Kd.int .u8) (w0 := w) w.heap.size rfl (.tmp 57) (.tmp 60) 56 5 (.int .u8 0) 1 rfl Tryd.underlying56 info5 rfl (by decide) (by omega) v108 y107 ((wrap64 ((wrap64 (16 * ((rd_T39 l0 x11_1).f1))) + ((rd_T39 l0 x11_1).f2))) % 256) [.int .u8 ((wrap64 ((wrap64 (16 * ((rd_T39 l0 x11_1).f1))) + ((rd_T39 l0 x11_1).f2))) % 256)] (fun k_ => some k_ ≠ (.slice Ao101 t104.length co101 : Value).ownBlock) (fun _ => False) rfl rfl ?aP (fun _ hk => hk.elim) ?aF ?aO ?aB ?aS ?aL ?_; (case aP => exact rfl); (case aB => exact qqn); (case aF => exact qqa); (case aO => exact (qR HO109.out)); (case aS => exact qqf); (case aL => have := LMc78.out; omega); intro v145 w103 ho hb hg hat; rw [← Ny144.out] at ho; replace BK102 := Aside0.mk (blk_grown (bq BK102.out) hg (Kd.R_ne HO109.out BK102.out (by decide))); replace HO106 := Aside0.mk (Kd.R_after (ok := (fun _ => True)) (qR HO106.out) hg hat); replace HB := Aside0.mk (hb); have HO146 := Aside0.mk (ho); clear HO109; clear ho hb hg hat; obtain ⟨hcz104_0, hcz104_1, hcz104_2, hcz104_3, hcz104_4, hcz104_5, hfz104_0, hfz104_1, hfz104_2, hfz104_3, hfz104_4, hfz104_5⟩ := blk6 BK102.out) | ((with_reducible refine gate_builtin (b := .append) (xs := #[.tmp 62, .tmp 66]) rfl ?_); at_builtin; refine Kd.R_append (Kd.int .u8) (w0 := w) w.heap.size rfl (.tmp 62) (.tmp 66) 56 5 (.int .u8 0) 1 rfl Tryd.underlying56 info5 rfl (by decide) (by omega) v145 y144 (((rd_T39 l0 x11_1).f3) % 256) [.int .u8 (((rd_T39 l0 x11_1).f3) % 256)] (fun k_ => some k_ ≠ (.slice Ao101 t104.length co101 : Value).ownBlock) (fun _ => False) rfl rfl ?aP (fun _ hk => hk.elim) ?aF ?aO ?aB ?aS ?aL ?_; (case aP => exact rfl); (case aB => exact qqn); (case aF => exact qqa); (case aO => exact (qR HO146.out)); (case aS => exact qqf); (case aL => have := LMc79.out; omega); intro v148 w105 ho hb hg hat; rw [← Ny147.out] at ho; replace BK102 := Aside0.mk (blk_grown (bq BK102.out) hg (Kd.R_ne HO146.out BK102.out (by decide))); replace HO106 := Aside0.mk (Kd.R_after (ok := (fun _ => True)) (qR HO106.out) hg hat); replace HB := Aside0.mk (hb); have HO149 := Aside0.mk (ho); clear HO146; clear ho hb hg hat; obtain ⟨hcz106_0, hcz106_1, hcz106_2, hcz106_3, hcz106_4, hcz106_5, hfz106_0, hfz106_1, hfz106_2, hfz106_3, hfz106_4, hfz106_5⟩ := blk6 BK102.out) | ((with_reducible refine gate_callee (f := 25) rfl ?_); refine goesL_ (some 70) rfl rfl Tryd.func25 (by kernel_rfl) rfl #[.int .i64 ((rd_T39 l0 x11_1).f1)] rfl qq0 ?_; (with_reducible refine (wire_one.calls ((rd_T39 l0 x11_1).f1) false _ A80.out).mono ?_); rintro e w' ⟨rfl, ⟨nd, rfl⟩⟩; refine ⟨_, rfl, ?_⟩) | ((with_reducible refine gate_builtin (b := .append) (xs := #[.tmp 72, .tmp 76]) rfl ?_); at_builtin; refine Kd.R_append (Kd.int .u8) (w0 := w) w.heap.size rfl (.tmp 72) (.tmp 76) 56 5 (.int .u8 0) 1 rfl Tryd.underlying56 info5 rfl (by decide) (by omega) v148 y147 (((rd_T39 l0 x11_1).f4) % 256) [.int .u8 (((rd_T39 l0 x11_1).f4) % 256)] (fun k_ => some k_ ≠ (.slice Ao101 t104.length co101 : Value).ownBlock) (fun _ => False) rfl rfl ?aP (fun _ hk => hk.elim) ?aF ?aO ?aB ?aS ?aL ?_; (case aP => exact rfl); (case aB => exact qqn); (case aF => exact qqa); (case aO => exact (qR HO149.out)); (case aS => exact qqf); (case aL => have := LMc94.out; omega); intro v152 w107 ho hb hg hat; rw [← Ny151.out] at ho; replace BK102 := Aside0.mk (blk_grown (bq BK102.out) hg (Kd.R_ne HO149.out BK102.out (by decide))); replace HO106 := Aside0.mk (Kd.R_after (ok := (fun _ => True)) (qR HO106.out) hg hat); replace HB := Aside0.mk (hb); have HO153 := Aside0.mk (ho); clear HO149; clear ho hb hg hat))
      go_roundg k1
      case measure => have := HK1.out; omega
      case rel => exact ⟨(y151), (wrap64 ((wrap64 (16 * ((rd_T39 l0 x11_1).f1))) + ((rd_T39 l0 x11_1).f2))), (wrap64 (x11_1 + 1)), qq6, qq6, H', ⟨qqm⟩, ⟨qR (Kd.R_mono HO153.out (fun _ hk => trivial))⟩, ⟨qS1 GE102 HB.out⟩⟩
def smf_Check_1.f (k : Nat) (a0_0 : Int) (a0_1 : Int) (a0_2 : Int) (a0_3 : Int) (a0_4 : Int) (a0_5 : ByteArray) : Option (Bool) := (wire_Right.f k a0_0 a0_1 a0_2 a0_3 a0_4 a0_5).bind fun t102 => (some (!t102))
theorem smf_Check_1.mono : ∀ a0 a1 a2 a3 a4 a5 k, LeO (smf_Check_1.f k a0 a1 a2 a3 a4 a5) (smf_Check_1.f (k + 1) a0 a1 a2 a3 a4 a5) := by
  intro a0 a1 a2 a3 a4 a5 k
  unfold smf_Check_1.f
  repeat' first
      | (with_reducible exact wire_Right.mono _ _ _ _ _ _ _)
      | (with_reducible exact LeO.refl _)
      | (with_reducible exact LeO.none _)
      | (with_reducible refine LeO.ite ?_ ?_)
      | (with_reducible refine LeO.bind ?_ (fun _ => ?_))
      | exact wire_Right.mono _ _ _ _ _ _ _
      | exact LeO.none _
      | refine LeO.ite ?_ ?_
      | refine LeO.bind ?_ (fun _ => ?_)
set_option maxHeartbeats 8000000 in
set_option maxRecDepth 100000 in
theorem smf_Check_1.calls (k : Nat) (a0_0 : Int) (a0_1 : Int) (a0_2 : Int) (a0_3 : Int) (a0_4 : Int) (a0_5 : ByteArray) (r : Bool) (w : World) (h : smf_Check_1.f k a0_0 a0_1 a0_2 a0_3 a0_4 a0_5 = some r) :
    Calls Tryd.prog 26 #[.agg #[.int .i64 a0_0, .int .i64 a0_1, .int .i64 a0_2, .int .i64 a0_3, .int .i64 a0_4, .string a0_5]] w fun e w' => e = .returned (.bool r) ∧ Below w.heap.size w w' := by
  have hu39 := Tryd.underlying39
  have HB := Aside0.mk (Below.refl w.heap.size w)
  have H := h
  unfold smf_Check_1.f at H
  clear h
  replace H := Option.bind_eq_some_iff.mp H
  obtain ⟨t102, A20, H⟩ := H
  try dsimp -simprocs only at H
  have A2 := Aside0.mk A20
  clear A20
  obtain rfl := Option.some.inj H
  go_enter Tryd.func26, Tryd.ntmps26
  go_wp2_with (first | ((with_reducible refine gate_dst (N := 1) rfl ?_); refine box_event ?hg (N := 1) ?hd (cs := #[.int .i64 a0_0, .int .i64 a0_1, .int .i64 a0_2, .int .i64 a0_3, .int .i64 a0_4, .string a0_5]) (t := 39) ?hr ?_; (case hd => rfl); (case hg => rfl); (case hr => exact qq8); intro gb101 hg w3 hbox hb; have BK101 := Aside0.mk (hbox); have GW101 := Aside0.mk ((qq7 : w.heap.size ≤ gb101)); have GE101 := Aside0.mk ((qq7 : w.heap.size ≤ gb101)); replace HB := Aside0.mk (below_step (qB HB.out) hb); clear hb hbox hg; obtain ⟨hcz4_0, hcz4_1, hcz4_2, hcz4_3, hcz4_4, hcz4_5, hfz4_0, hfz4_1, hfz4_2, hfz4_3, hfz4_4, hfz4_5⟩ := blk6 BK101.out) | ((with_reducible refine gate_callee (f := 23) rfl ?_); refine goesL_ (some 4) rfl rfl Tryd.func23 (by kernel_rfl) rfl #[.agg #[.int .i64 a0_0, .int .i64 a0_1, .int .i64 a0_2, .int .i64 a0_3, .int .i64 a0_4, .string a0_5]] rfl qq0 ?_; (with_reducible refine (wire_Right.calls k a0_0 a0_1 a0_2 a0_3 a0_4 a0_5 t102 _ A2.out).mono ?_); rintro e w5 ⟨rfl, hb⟩; refine ⟨_, rfl, ?_⟩; replace BK101 := Aside0.mk (blk_below (bq BK101.out) hb); replace HB := Aside0.mk (below_step (qS1 GE101 HB.out) hb); (try clear hb); (try clear hb2); (try clear hk); (try clear hi)))
  go_ret
  exact ⟨qq4, qS1 GE101 HB.out⟩
def smf_Parse_1.l0 : Nat → List (S39) → Int → Int → Option (Int)
  | 0, _, _, _ => none
  | k + 1, x0, x7, x8 => if x8 < x7 then (if 0 ≤ x8 then (if x8 < (x0.length : Int) then ((smf_Check_1.f k ((rd_T39 x0 x8).f0) ((rd_T39 x0 x8).f1) ((rd_T39 x0 x8).f2) ((rd_T39 x0 x8).f3) ((rd_T39 x0 x8).f4) ((rd_T39 x0 x8).f5)).bind fun t102 => (if t102 = true then (some x8) else (smf_Parse_1.l0 k x0 x7 (wrap64 (x8 + 1))))) else (none)) else (none)) else (some (-1))
def smf_Parse_1.f (k : Nat) (l0 : List (S39)) : Option (Int) := smf_Parse_1.l0 k l0 (l0.length : Int) 0
theorem smf_Parse_1.mono_l : ∀ k, (∀ y0 y1 y2, LeO (smf_Parse_1.l0 k y0 y1 y2) (smf_Parse_1.l0 (k + 1) y0 y1 y2))
  | 0 => fun _ _ _ r h => by simp [smf_Parse_1.l0] at h
  | k + 1 => by
    have ih0 := smf_Parse_1.mono_l k
    · intro y0 y1 y2
      unfold smf_Parse_1.l0
      repeat' first
      | (with_reducible exact ih0 _ _ _)
      | (with_reducible exact smf_Check_1.mono _ _ _ _ _ _ _)
      | (with_reducible exact LeO.refl _)
      | (with_reducible exact LeO.none _)
      | (with_reducible refine LeO.ite ?_ ?_)
      | (with_reducible refine LeO.bind ?_ (fun _ => ?_))
      | exact ih0 _ _ _
      | exact smf_Check_1.mono _ _ _ _ _ _ _
      | exact LeO.none _
      | refine LeO.ite ?_ ?_
      | refine LeO.bind ?_ (fun _ => ?_)
theorem smf_Parse_1.mono : ∀ a0 k, LeO (smf_Parse_1.f k a0) (smf_Parse_1.f (k + 1) a0) := by
  intro a0 k
  have ih0 := smf_Parse_1.mono_l k
  unfold smf_Parse_1.f
  repeat' first
      | (with_reducible exact ih0 _ _ _)
      | (with_reducible exact smf_Check_1.mono _ _ _ _ _ _ _)
      | (with_reducible exact LeO.refl _)
      | (with_reducible exact LeO.none _)
      | (with_reducible refine LeO.ite ?_ ?_)
      | (with_reducible refine LeO.bind ?_ (fun _ => ?_))
      | exact ih0 _ _ _
      | exact smf_Check_1.mono _ _ _ _ _ _ _
      | exact LeO.none _
      | refine LeO.ite ?_ ?_
      | refine LeO.bind ?_ (fun _ => ?_)
set_option maxHeartbeats 8000000 in
set_option maxRecDepth 100000 in
theorem smf_Parse_1.calls (k : Nat) (A0 : Option Addr) (c0 : Nat) (l0 : List (S39)) (r : Int) (w : World) (hr0 : Kd.C k39 w A0 l0.length l0) (hc0 : l0.length ≤ c0) (h : smf_Parse_1.f k l0 = some r) :
    Calls Tryd.prog 45 #[.slice A0 l0.length c0, .func (.func 26) #[] #[]] w fun e w' => e = .returned (.int .i64 r) ∧ Below w.heap.size w w' := by
  have hu39 := Tryd.underlying39
  have HR0 := Aside0.mk hr0
  have HC0 := Aside0.mk hc0
  clear hr0 hc0
  have HB := Aside0.mk (Below.refl w.heap.size w)
  have H := h
  unfold smf_Parse_1.f at H
  clear h
  have H' := Aside0.mk H
  clear H
  go_enter Tryd.func45, Tryd.ntmps45
  go_wp2
  go_loopg [8] k (fun kq v8 w' => ∃ (x8_1 : Int), v8 = .int .i64 x8_1 ∧ Aside0 (smf_Parse_1.l0 kq l0 (l0.length : Int) x8_1 = some r) ∧ Aside0 (kq ≤ k) ∧ Aside0 (Below w.heap.size w w'))
  case atStart => exact ⟨(0), qq6, H', ⟨Nat.le_refl _⟩, ⟨qB HB.out⟩⟩
  case round =>
    clear H'
    try clear c1
    obtain ⟨x8_1, rfl, HA, HK1, HB⟩ := hrel
    cases gk with
    | zero => exact absurd HA.out (by simp [smf_Parse_1.l0])
    | succ k1 =>
      have H := HA.out
      clear HA
      simp only [smf_Parse_1.l0] at H
      by_cases c2 : x8_1 < (l0.length : Int)
      rotate_left
      · rw [if_neg c2] at H
        have c2b0 : decide (x8_1 < (l0.length : Int)) = false := decide_eq_false c2
        clear c2
        obtain rfl := Option.some.inj H
        go_wp2
        go_ret
        exact ⟨qq4, qB HB.out⟩
      rw [if_pos c2] at H
      have c2b0 : decide (x8_1 < (l0.length : Int)) = true := decide_eq_true c2
      clear c2
      by_cases c3 : 0 ≤ x8_1
      rotate_left
      · rw [if_neg c3] at H
        exact absurd H (by simp)
      rw [if_pos c3] at H
      have c3b0 : decide (0 ≤ x8_1) = true := decide_eq_true c3
      clear c3
      by_cases c4 : x8_1 < (l0.length : Int)
      rotate_left
      · rw [if_neg c4] at H
        exact absurd H (by simp)
      rw [if_pos c4] at H
      have c4b0 : decide (x8_1 < (l0.length : Int)) = true := decide_eq_true c4
      clear c4
      replace H := Option.bind_eq_some_iff.mp H
      obtain ⟨t102, A50, H⟩ := H
      try dsimp -simprocs only at H
      have A5 := Aside0.mk A50
      clear A50
      by_cases c6 : t102 = true
      · subst c6
        have H1 : (some x8_1) = some r := by rw [if_pos rfl] at H; exact H
        clear H
        have H := H1
        clear H1
        obtain rfl := Option.some.inj H
        have p101 : 0 ≤ (x8_1 : Int) := of_decide_eq_true qq3
        have q101 : x8_1 < (l0.length : Int) := of_decide_eq_true qq3
        obtain ⟨ad101, e101, hx101_0, hx101_1, hx101_2, hx101_3, hx101_4, hx101_5⟩ := at_T39 HR0.out x8_1 p101 q101
        cases e101
        replace hx101_0 := (HB.out.cell (World.block_lt_of_cell? w _ hx101_0)).trans hx101_0
        replace hx101_1 := (HB.out.cell (World.block_lt_of_cell? w _ hx101_1)).trans hx101_1
        replace hx101_2 := (HB.out.cell (World.block_lt_of_cell? w _ hx101_2)).trans hx101_2
        replace hx101_3 := (HB.out.cell (World.block_lt_of_cell? w _ hx101_3)).trans hx101_3
        replace hx101_4 := (HB.out.cell (World.block_lt_of_cell? w _ hx101_4)).trans hx101_4
        replace hx101_5 := (HB.out.cell (World.block_lt_of_cell? w _ hx101_5)).trans hx101_5
        replace p101 := eq_true p101
        replace q101 := eq_true q101
        go_wp2_with (first | (refine goesV_ (some 16) rfl rfl Tryd.func26 (by kernel_rfl) rfl #[.agg #[.int .i64 ((rd_T39 l0 x8_1).f0), .int .i64 ((rd_T39 l0 x8_1).f1), .int .i64 ((rd_T39 l0 x8_1).f2), .int .i64 ((rd_T39 l0 x8_1).f3), .int .i64 ((rd_T39 l0 x8_1).f4), .string ((rd_T39 l0 x8_1).f5)]] rfl qq0 ?_; (with_reducible refine (smf_Check_1.calls k1 ((rd_T39 l0 x8_1).f0) ((rd_T39 l0 x8_1).f1) ((rd_T39 l0 x8_1).f2) ((rd_T39 l0 x8_1).f3) ((rd_T39 l0 x8_1).f4) ((rd_T39 l0 x8_1).f5) true _ A5.out).mono ?_); rintro e w7 ⟨rfl, hb⟩; refine ⟨_, rfl, ?_⟩; replace HB := Aside0.mk (below_step (qB HB.out) hb); (try clear hb); (try clear hb2); (try clear hk); (try clear hi)))
        go_ret
        exact ⟨qq4, qB HB.out⟩
      replace c6 := Bool.eq_false_iff.mpr c6
      subst c6
      have H1 : (smf_Parse_1.l0 k1 l0 (l0.length : Int) (wrap64 (x8_1 + 1))) = some r := by rw [if_neg (show ¬ (false = true) by decide)] at H; exact H
      clear H
      have H := H1
      clear H1
      have H' := Aside0.mk H
      clear H
      have p101 : 0 ≤ (x8_1 : Int) := of_decide_eq_true qq3
      have q101 : x8_1 < (l0.length : Int) := of_decide_eq_true qq3
      obtain ⟨ad101, e101, hx101_0, hx101_1, hx101_2, hx101_3, hx101_4, hx101_5⟩ := at_T39 HR0.out x8_1 p101 q101
      cases e101
      replace hx101_0 := (HB.out.cell (World.block_lt_of_cell? w _ hx101_0)).trans hx101_0
      replace hx101_1 := (HB.out.cell (World.block_lt_of_cell? w _ hx101_1)).trans hx101_1
      replace hx101_2 := (HB.out.cell (World.block_lt_of_cell? w _ hx101_2)).trans hx101_2
      replace hx101_3 := (HB.out.cell (World.block_lt_of_cell? w _ hx101_3)).trans hx101_3
      replace hx101_4 := (HB.out.cell (World.block_lt_of_cell? w _ hx101_4)).trans hx101_4
      replace hx101_5 := (HB.out.cell (World.block_lt_of_cell? w _ hx101_5)).trans hx101_5
      replace p101 := eq_true p101
      replace q101 := eq_true q101
      go_wp2_with (first | (refine goesV_ (some 16) rfl rfl Tryd.func26 (by kernel_rfl) rfl #[.agg #[.int .i64 ((rd_T39 l0 x8_1).f0), .int .i64 ((rd_T39 l0 x8_1).f1), .int .i64 ((rd_T39 l0 x8_1).f2), .int .i64 ((rd_T39 l0 x8_1).f3), .int .i64 ((rd_T39 l0 x8_1).f4), .string ((rd_T39 l0 x8_1).f5)]] rfl qq0 ?_; (with_reducible refine (smf_Check_1.calls k1 ((rd_T39 l0 x8_1).f0) ((rd_T39 l0 x8_1).f1) ((rd_T39 l0 x8_1).f2) ((rd_T39 l0 x8_1).f3) ((rd_T39 l0 x8_1).f4) ((rd_T39 l0 x8_1).f5) false _ A5.out).mono ?_); rintro e w8 ⟨rfl, hb⟩; refine ⟨_, rfl, ?_⟩; replace HB := Aside0.mk (below_step (qB HB.out) hb); (try clear hb); (try clear hb2); (try clear hk); (try clear hi)))
      go_roundg k1
      case measure => have := HK1.out; omega
      case rel => exact ⟨(wrap64 (x8_1 + 1)), qq6, H', ⟨qqm⟩, ⟨qB HB.out⟩⟩
def api_Midi_27.f (k : Nat) (l0 : List (S39)) : Option (Bool) := (smf_Parse_1.f k l0).bind fun t101 => (some (decide (t101 ≥ 0)))
theorem api_Midi_27.mono : ∀ a0 k, LeO (api_Midi_27.f k a0) (api_Midi_27.f (k + 1) a0) := by
  intro a0 k
  unfold api_Midi_27.f
  repeat' first
      | (with_reducible exact smf_Parse_1.mono _ _)
      | (with_reducible exact LeO.refl _)
      | (with_reducible exact LeO.none _)
      | (with_reducible refine LeO.ite ?_ ?_)
      | (with_reducible refine LeO.bind ?_ (fun _ => ?_))
      | exact smf_Parse_1.mono _ _
      | exact LeO.none _
      | refine LeO.ite ?_ ?_
      | refine LeO.bind ?_ (fun _ => ?_)
set_option maxHeartbeats 8000000 in
set_option maxRecDepth 100000 in
theorem api_Midi_27.calls (k : Nat) (A0 : Option Addr) (c0 : Nat) (l0 : List (S39)) (r : Bool) (w : World) (hr0 : Kd.C k39 w A0 l0.length l0) (hc0 : l0.length ≤ c0) (h : api_Midi_27.f k l0 = some r) :
    Calls Tryd.prog 27 #[.slice A0 l0.length c0, .func (.func 26) #[] #[]] w fun e w' => e = .returned (.bool r) ∧ Below w.heap.size w w' := by
  have HR0 := Aside0.mk hr0
  have HC0 := Aside0.mk hc0
  clear hr0 hc0
  have HB := Aside0.mk (Below.refl w.heap.size w)
  have H := h
  unfold api_Midi_27.f at H
  clear h
  replace H := Option.bind_eq_some_iff.mp H
  obtain ⟨t101, A20, H⟩ := H
  try dsimp -simprocs only at H
  have A2 := Aside0.mk A20
  clear A20
  obtain rfl := Option.some.inj H
  go_enter Tryd.func27, Tryd.ntmps27
  go_wp2_with (first | ((with_reducible refine gate_callee (f := 45) rfl ?_); refine goesL_ (some 7) rfl rfl Tryd.func45 (by kernel_rfl) rfl #[.slice A0 l0.length c0, .func (.func 26) #[] #[]] rfl qq0 ?_; (with_reducible refine (smf_Parse_1.calls k _ _ l0 t101 _ ?side1 ?side2 A2.out).mono ?_); (case side1 => repeat (first | exact HR0.out | (with_reducible refine Kd.C_alloc ?_ _) | (with_reducible refine Kd.C_drewN ?_ _) | (with_reducible refine Kd.C_drew ?_))); (case side2 => exact HC0.out); rintro e w3 ⟨rfl, hb⟩; refine ⟨_, rfl, ?_⟩; replace HB := Aside0.mk (below_step (qB HB.out) hb); (try clear hb); (try clear hb2); (try clear hk); (try clear hi)))
  go_ret
  exact ⟨qq4, qB HB.out⟩
def smf_last.f (a0_0 : Int) (a0_1 : Int) (a0_2 : Int) (a0_3 : Int) (a0_4 : Int) (a0_5 : ByteArray) : Option (Bool) := if a0_1 = 16 then (if a0_3 = 47 then (some (a0_5.toList == ([] : List UInt8))) else (some false)) else (some false)
set_option maxHeartbeats 8000000 in
set_option maxRecDepth 100000 in
theorem smf_last.calls (a0_0 : Int) (a0_1 : Int) (a0_2 : Int) (a0_3 : Int) (a0_4 : Int) (a0_5 : ByteArray) (r : Bool) (w : World) (h : smf_last.f a0_0 a0_1 a0_2 a0_3 a0_4 a0_5 = some r) :
    Calls Tryd.prog 46 #[.agg #[.int .i64 a0_0, .int .i64 a0_1, .int .i64 a0_2, .int .i64 a0_3, .int .i64 a0_4, .string a0_5]] w fun e w' => e = .returned (.bool r) ∧ Below w.heap.size w w' := by
  have hu39 := Tryd.underlying39
  have HB := Aside0.mk (Below.refl w.heap.size w)
  have H := h
  unfold smf_last.f at H
  clear h
  by_cases c2 : a0_1 = 16
  rotate_left
  · rw [if_neg c2] at H
    have c2b0 : (a0_1 == 16) = false := beq_eq_false_iff_ne.mpr c2
    have c2b1 : (a0_1 != 16) = true := bne_iff_ne.mpr c2
    obtain rfl := Option.some.inj H
    go_enter Tryd.func46, Tryd.ntmps46
    go_wp2_with (first | ((with_reducible refine gate_dst (N := 1) rfl ?_); refine box_event ?hg (N := 1) ?hd (cs := #[.int .i64 a0_0, .int .i64 a0_1, .int .i64 a0_2, .int .i64 a0_3, .int .i64 a0_4, .string a0_5]) (t := 39) ?hr ?_; (case hd => rfl); (case hg => rfl); (case hr => exact qq8); intro gb101 hg w8 hbox hb; have BK101 := Aside0.mk (hbox); have GW101 := Aside0.mk ((qq7 : w.heap.size ≤ gb101)); have GE101 := Aside0.mk ((qq7 : w.heap.size ≤ gb101)); replace HB := Aside0.mk (below_step (qB HB.out) hb); clear hb hbox hg; obtain ⟨hcz9_0, hcz9_1, hcz9_2, hcz9_3, hcz9_4, hcz9_5, hfz9_0, hfz9_1, hfz9_2, hfz9_3, hfz9_4, hfz9_5⟩ := blk6 BK101.out))
    go_ret
    exact ⟨qq4, qS1 GE101 HB.out⟩
  rw [if_pos c2] at H
  have c2b0 : (a0_1 == 16) = true := beq_iff_eq.mpr c2
  have c2b1 : (a0_1 != 16) = false := bne_eq_false_iff_eq.mpr c2
  clear c2
  by_cases c3 : a0_3 = 47
  rotate_left
  · rw [if_neg c3] at H
    have c3b0 : (a0_3 == 47) = false := beq_eq_false_iff_ne.mpr c3
    have c3b1 : (a0_3 != 47) = true := bne_iff_ne.mpr c3
    obtain rfl := Option.some.inj H
    go_enter Tryd.func46, Tryd.ntmps46
    go_wp2_with (first | ((with_reducible refine gate_dst (N := 1) rfl ?_); refine box_event ?hg (N := 1) ?hd (cs := #[.int .i64 a0_0, .int .i64 a0_1, .int .i64 a0_2, .int .i64 a0_3, .int .i64 a0_4, .string a0_5]) (t := 39) ?hr ?_; (case hd => rfl); (case hg => rfl); (case hr => exact qq8); intro gb101 hg w6 hbox hb; have BK101 := Aside0.mk (hbox); have GW101 := Aside0.mk ((qq7 : w.heap.size ≤ gb101)); have GE101 := Aside0.mk ((qq7 : w.heap.size ≤ gb101)); replace HB := Aside0.mk (below_step (qB HB.out) hb); clear hb hbox hg; obtain ⟨hcz7_0, hcz7_1, hcz7_2, hcz7_3, hcz7_4, hcz7_5, hfz7_0, hfz7_1, hfz7_2, hfz7_3, hfz7_4, hfz7_5⟩ := blk6 BK101.out))
    go_ret
    exact ⟨qq4, qS1 GE101 HB.out⟩
  rw [if_pos c3] at H
  have c3b0 : (a0_3 == 47) = true := beq_iff_eq.mpr c3
  have c3b1 : (a0_3 != 47) = false := bne_eq_false_iff_eq.mpr c3
  clear c3
  obtain rfl := Option.some.inj H
  go_enter Tryd.func46, Tryd.ntmps46
  go_wp2_with (first | ((with_reducible refine gate_dst (N := 1) rfl ?_); refine box_event ?hg (N := 1) ?hd (cs := #[.int .i64 a0_0, .int .i64 a0_1, .int .i64 a0_2, .int .i64 a0_3, .int .i64 a0_4, .string a0_5]) (t := 39) ?hr ?_; (case hd => rfl); (case hg => rfl); (case hr => exact qq8); intro gb101 hg w4 hbox hb; have BK101 := Aside0.mk (hbox); have GW101 := Aside0.mk ((qq7 : w.heap.size ≤ gb101)); have GE101 := Aside0.mk ((qq7 : w.heap.size ≤ gb101)); replace HB := Aside0.mk (below_step (qB HB.out) hb); clear hb hbox hg; obtain ⟨hcz5_0, hcz5_1, hcz5_2, hcz5_3, hcz5_4, hcz5_5, hfz5_0, hfz5_1, hfz5_2, hfz5_3, hfz5_4, hfz5_5⟩ := blk6 BK101.out))
  go_ret
  exact ⟨qq4, qS1 GE101 HB.out⟩
end Go.Proofs.YtdmnknhlibaaoaaDoor.M
