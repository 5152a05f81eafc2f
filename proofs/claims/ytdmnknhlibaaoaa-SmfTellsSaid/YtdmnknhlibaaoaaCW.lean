/- Proofs that stand often in the printed texts, each told once: a word is run where it stands, with the names that stand there. -/
import Derived.ArgAppend
import Derived.Below
import Derived.BigQuiet
import Derived.ChangeArms
import Derived.ChangeOld
import Derived.ChangeSame
import Derived.Deep.AppendLies
import Derived.Deep.CutBlock
import Derived.Deep.DeepCutAuto
import Derived.Deep.Draws
import Derived.Deep.Fields
import Derived.Deep.LoopGhost
import Derived.Deep.OwnRows
import Derived.Deep.QuietTactic
import Derived.Deep.RegionHeld3
import Derived.Deep.RegionLaw
import Derived.Deep.Slices
import Derived.Defers
import Derived.IntWalk
import Derived.KernelRfl
import Derived.Laws.BitsLemmas
import Derived.Laws.BytesArg
import Derived.Laws.Cover3
import Derived.Laws.IdiomCopy
import Derived.Laws.MakeOwn
import Derived.Laws.OwnMore
import Derived.Laws.Rows
import Derived.Laws.Slices
import Derived.Laws.StructEq
import Derived.Lib.AppendStr
import Derived.Lib.ConvBytes
import Derived.Lib.Hide
import Derived.Lib.SlBytesConst
import Derived.Lib.SmallJoins
import Derived.Lib.Strings
import Derived.Maps.AppendAt
import Derived.OneCell
import Derived.OpenShut
import Derived.OrdersHeld
import Derived.Outline
import Derived.OwnWalk
import Derived.ProofKit
import Derived.Recover
import Derived.RowKit
import Derived.RowKit3
import Derived.ShutString
import Derived.SizedLaws
import Derived.StillTactics
import Derived.Tactics
import Derived.Tactics2
import Derived.Test.YtdmnknhlibaaoaaProg
import Derived.Test.YtdmnknhlibaaoaaRows
import Derived.WalkKit
import Derived.WalkSpells
import Derived.WideLaws
import Derived.Test.YtdmnknhlibaaoaaC0
namespace Go.Proofs.YtdmnknhlibaaoaaW.PrintWords
theorem am {p : Prop} (h : p) : Aside0 p := ⟨h⟩
theorem W0 {w w' : World} {p : Addr} {v : Value} (b : RowKit.Below w.heap.size w w') (h : w.cell? p = some v) : w'.cell? p = some v := (b.cell (World.block_lt_of_cell? w _ h)).trans h
theorem L2 {α β : Type} {x : Option α} {f : α → Option β} {b : β} (h : x.bind f = some b) : ∃ a, x = some a ∧ f a = some b := Option.bind_eq_some_iff.mp h
theorem F2 {a : Prop} (h : a := by (try simp only [List.map_toArray, List.map_cons, List.map_nil]); rfl) : a := h
theorem PA {a : Prop} (h : a := by repeat (first | (with_reducible first | exact Q1.out | apply X1.alloc | apply X1.drewN | apply X1.drew | apply X1.set_0 | apply X1.set_1 | apply X1.set_2 | apply X1.set_3) | exact Q1.out)) : a := h
theorem L9 {a : Prop} (h : a := by (try simp only [List.map_toArray, List.map_cons, List.map_nil]); first | done | rfl | (simp only [List.length_drop, List.length_take]; rfl)) : a := h
theorem R1 {a : Prop} (h : a := by (with_reducible assumption)) : a := h
theorem U2 {a : Prop} (h : a := by rw [hg]; exact (S3 (qB I.out))) : a := h
theorem qP {a : Prop} (h : a := by (with_reducible repeat (first | apply Kd.GE | apply Kd.dE | apply Kd.EE)); exact (Kd.Y5 (Kd.SB (p := ⟨K0, 5, none⟩) (Kd.SB (p := ⟨K0, 4, none⟩) (Kd.SB (p := ⟨K0, 3, none⟩) (Kd.SB (p := ⟨K0, 2, none⟩) (Kd.SB (p := ⟨K0, 1, none⟩) (Kd.SB (p := ⟨K0, 0, none⟩) (Kd.kA I5.out o0.out (by decide)) (fun _ X => X.2) (.int .i64 ((U l0 D0).f0))) (fun _ X => X.2) (.int .i64 ((U l0 D0).f1))) (fun _ X => X.2) (.int .i64 ((U l0 D0).f2))) (fun _ X => X.2) (.int .i64 ((U l0 D0).f3))) (fun _ X => X.2) (.int .i64 ((U l0 D0).f4))) (fun _ X => X.2) (.string ((U l0 D0).f5))) (fun _ h_ => h_.1))) : a := h
theorem JA {a : Prop} (h : a := by repeat (first | (with_reducible first | exact HK.out | apply F1.set_ | apply dC | apply cx7 | apply ct2) | exact HK.out)) : a := h
theorem F5 {a : Prop} (h : a := by repeat (first | exact E_.refl _ | apply E_.step)) : a := h
theorem z_ {a : Prop} (h : a := by (simp only [bD, Act.put, List.setIfInBounds_toArray, List.set_cons_zero, List.set_cons_succ]; done)) : a := h
theorem L_ {a : Prop} (h : a := by first | rfl | (simp [bN, QM] <;> rfl) | (simp [*, bN, QM] <;> rfl)) : a := h
theorem o6 {a : Prop} (h : a := by first | rfl | (simp; done) | (simp [*]; done)) : a := h
theorem sR {a : Prop} (h : a := by exact (J2.one (show Kd.M (Kd.int .i64) _ _ _ 0 [.int .i64 0] from rfl) (J2.one (show Kd.M (Kd.int .i64) _ _ _ 1 [.int .i64 1] from rfl) (J2.one (show Kd.M (Kd.int .i64) _ _ _ 96 [.int .i64 96] from rfl) (J2.one (show Kd.M (Kd.int .i64) _ _ _ 127 [.int .i64 127] from rfl) (J2.one (show Kd.M (Kd.int .i64) _ _ _ 128 [.int .i64 128] from rfl) (J2.one (show Kd.M (Kd.int .i64) _ _ _ 16384 [.int .i64 16384] from rfl) (J2.one (show Kd.M (Kd.int .i64) _ _ _ 268435455 [.int .i64 268435455] from rfl) (J2.none _ _))))))))) : a := h
theorem V7 {a : Prop} (h : a := by rw [hg]; exact Nat.ne_of_lt (K8 (bq Y.out))) : a := h
theorem X7 {a : Prop} (h : a := by rw [hg]; exact Nat.ne_of_gt (K8 (bq Y.out))) : a := h
theorem J7 {a : Prop} (h : a := by rw [hg]; exact (S3 (S0 H0 I.out))) : a := h
theorem dB {a : Prop} (h : a := by repeat ((with_reducible exact HK.out))) : a := h
theorem NA {a : Prop} (h : a := by rw [hg]; exact (S3 (X2 H0 Q0 I.out))) : a := h
theorem Y9 {a : Prop} (h : a := by first | (go_simp; done) | (go_simp; rfl)) : a := h
theorem CB {a : Prop} (h : a := by repeat ((with_reducible exact Q1.out))) : a := h
theorem BB {a : Prop} (h : a := by repeat ((with_reducible exact I.out))) : a := h
theorem FE {a : Prop} (h : a := by exact (fun k_ X => Kd.I7 (Kd.D_ (qR N5.out)) k_ X)) : a := h
theorem fF {a : Prop} (h : a := by first | exact Kd.Zm T3 | exact Kd.qL T3) : a := h
theorem LF {a : Prop} (h : a := by rw [hg]; exact Nat.ne_of_lt (K8 (bq o0.out))) : a := h
theorem KF {a : Prop} (h : a := by rw [hg]; exact Nat.ne_of_gt (K8 (bq o0.out))) : a := h
theorem zZ {a : Prop} (h : a := by rw [tF]; simpa using DB (DB (DB (DB (DB (DB (i2.out) 0 (.int .i64 (rd Z1 t106))) 1 (.int .i64 (wrap64 (8 + t108)))) 2 (.int .i64 0)) 3 (.int .i64 0)) 4 (.int .i64 0)) 5 (.string (⟨#[]⟩ : ByteArray))) : a := h
theorem p7 {a : Prop} (h : a := by first | (with_reducible assumption) | assumption) : a := h
theorem bF {a : Prop} (h : a := by rw [hg]; exact (cs8 (w := w) (g := g) (row := none) dB)) : a := h
theorem C_ {a : Prop} (h : a := by have := S4.out; omega) : a := h
theorem yR {a : Prop} (h : a := by (with_reducible repeat (first | apply Kd.GE | apply Kd.dE | apply Kd.EE)); exact Kd.Y5 I5.out (fun _ X => X.2)) : a := h
theorem Z2 {a : Prop} (h : a := by (go_simp; done)) : a := h
theorem qqu {a : Prop} (h : a := by (with_reducible repeat (first | apply Kd.GE | apply Kd.dE | apply Kd.EE)); exact (Kd.Y5 (Kd.SB (p := ⟨R0, 5, none⟩) (Kd.SB (p := ⟨R0, 4, none⟩) (Kd.SB (p := ⟨R0, 3, none⟩) (Kd.SB (p := ⟨R0, 2, none⟩) (Kd.SB (p := ⟨R0, 1, none⟩) (Kd.SB (p := ⟨R0, 0, none⟩) (Kd.kA D4.out i2.out (by decide)) (fun _ X => X.2) (.int .i64 (rd Z1 t106))) (fun _ X => X.2) (.int .i64 (wrap64 (8 + t108)))) (fun _ X => X.2) (.int .i64 0)) (fun _ X => X.2) (.int .i64 0)) (fun _ X => X.2) (.int .i64 0)) (fun _ X => X.2) (.string (⟨#[]⟩ : ByteArray))) (fun _ h_ => h_.1))) : a := h
theorem VC {a : Prop} (h : a := by exact (S3 (S0 Q0 I.out))) : a := h
theorem pZ {a : Prop} (h : a := by rw [tF]; exact P0 (P0 (P0 (P0 (P0 (P0 (o0.out) I4.out _) I4.out _) I4.out _) I4.out _) I4.out _) I4.out _) : a := h
theorem PZ {a : Prop} (h : a := by rw [tF]; exact P0 (P0 (P0 (P0 (P0 (P0 (Y.out) l3.out _) l3.out _) l3.out _) l3.out _) l3.out _) l3.out _) : a := h
theorem UH {a : Prop} (h : a := by first | exact x_.out.be | exact G6 x_.out.be) : a := h
theorem DE {a : Prop} (h : a := by rw [← n6]; exact (bq Y.out)) : a := h
theorem ZY {a : Prop} (h : a := by rw [tF]; exact i4 (i4 (i4 (i4 (i4 (i4 (I.out) Y2.out) Y2.out) Y2.out) Y2.out) Y2.out) Y2.out) : a := h
theorem qqB {a : Prop} (h : a := by (with_reducible repeat (first | apply Kd.eC | apply Kd.gC | apply Kd.eB)); exact (Kd.J6 (Kd.H6 (p := ⟨R0, 2, none⟩) (Kd.H6 (p := ⟨R0, 1, none⟩) (Kd.H6 (p := ⟨R0, 0, none⟩) (Kd.J6 R4.out (fun k_ X => (⟨X, X.2⟩ : _ ∧ k_ ≠ R0))) (fun _ X => X.2) (.int .i64 t104)) (fun _ X => X.2) (.int .i64 t105)) (fun _ X => X.2) (.slice RX t106.length sS)) (fun _ h_ => h_.1))) : a := h
theorem qqC {a : Prop} (h : a := by (with_reducible repeat (first | apply Kd.eC | apply Kd.gC | apply Kd.eB)); exact (Kd.J6 (Kd.H6 (p := ⟨O8, 2, none⟩) (Kd.H6 (p := ⟨O8, 1, none⟩) (Kd.H6 (p := ⟨O8, 0, none⟩) (Kd.J6 T8.out (fun k_ X => (⟨X, X.2⟩ : _ ∧ k_ ≠ O8))) (fun _ X => X.2) (.int .i64 J4)) (fun _ X => X.2) (.int .i64 g6)) (fun _ X => X.2) (.slice DD J3.length vD)) (fun _ h_ => h_.1))) : a := h
theorem qqD {a : Prop} (h : a := by (with_reducible repeat (first | apply Kd.eC | apply Kd.gC | apply Kd.eB)); exact (Kd.J6 (Kd.H6 (p := ⟨O8, 2, none⟩) (Kd.H6 (p := ⟨O8, 1, none⟩) (Kd.H6 (p := ⟨O8, 0, none⟩) (Kd.J6 P4.out (fun k_ X => (⟨X, X.2⟩ : _ ∧ k_ ≠ O8))) (fun _ X => X.2) (.int .i64 J4)) (fun _ X => X.2) (.int .i64 g6)) (fun _ X => X.2) (.slice DD J3.length vD)) (fun _ h_ => h_.1))) : a := h
theorem qqE {a : Prop} (h : a := by (with_reducible repeat (first | apply Kd.eC | apply Kd.gC | apply Kd.eB)); exact (Kd.J6 (Kd.H6 (p := ⟨R0, 2, none⟩) (Kd.H6 (p := ⟨R0, 1, none⟩) (Kd.H6 (p := ⟨R0, 0, none⟩) (Kd.J6 R4.out (fun k_ X => (⟨X, X.2⟩ : _ ∧ k_ ≠ R0))) (fun _ X => X.2) (.int .i64 t104)) (fun _ X => X.2) (.int .i64 t105)) (fun _ X => X.2) (.slice UI t106.length MH)) (fun _ h_ => h_.1))) : a := h
theorem qqF {a : Prop} (h : a := by (with_reducible repeat (first | apply Kd.eC | apply Kd.gC | apply Kd.eB)); exact (Kd.J6 (Kd.H6 (p := ⟨H_, 2, none⟩) (Kd.H6 (p := ⟨H_, 1, none⟩) (Kd.H6 (p := ⟨H_, 0, none⟩) (Kd.J6 P4.out (fun k_ X => (⟨X, X.2⟩ : _ ∧ k_ ≠ H_))) (fun _ X => X.2) (.int .i64 0)) (fun _ X => X.2) (.int .i64 96)) (fun _ X => X.2) (.slice FC V4.length XB)) (fun _ h_ => h_.1))) : a := h
theorem bP {a : Prop} (h : a := by repeat ((with_reducible first | exact HK.out | apply dC))) : a := h
theorem qqH {a : Prop} (h : a := by (with_reducible repeat (first | apply Kd.WH | apply Kd.gI | apply Kd.OF)); exact (Kd.kD (Kd.yB (p := ⟨wI, 2, none⟩) (Kd.yB (p := ⟨wI, 1, none⟩) (Kd.yB (p := ⟨wI, 0, none⟩) (Kd.NJ QC.out JR.out (by decide)) (fun _ X => X.2) (.int .i64 t109)) (fun _ X => X.2) (.int .i64 t110)) (fun _ X => X.2) (.slice wU t111.length RQ)) (fun _ h_ => h_.1))) : a := h
theorem qqI {a : Prop} (h : a := by (with_reducible repeat (first | apply Kd.WH | apply Kd.gI | apply Kd.OF)); exact (Kd.kD (Kd.yB (p := ⟨wI, 2, none⟩) (Kd.yB (p := ⟨wI, 1, none⟩) (Kd.yB (p := ⟨wI, 0, none⟩) (Kd.NJ D4.out JR.out (by decide)) (fun _ X => X.2) (.int .i64 t109)) (fun _ X => X.2) (.int .i64 t110)) (fun _ X => X.2) (.slice wU t111.length RQ)) (fun _ h_ => h_.1))) : a := h
theorem qqJ {a : Prop} (h : a := by (with_reducible repeat (first | apply Kd.WH | apply Kd.gI | apply Kd.OF)); exact (Kd.kD (Kd.yB (p := ⟨UK, 2, none⟩) (Kd.yB (p := ⟨UK, 1, none⟩) (Kd.yB (p := ⟨UK, 0, none⟩) (Kd.NJ D4.out XI.out (by decide)) (fun _ X => X.2) (.int .i64 t101)) (fun _ X => X.2) (.int .i64 t102)) (fun _ X => X.2) (.slice LR t103.length zQ)) (fun _ h_ => h_.1))) : a := h
theorem UY {a : Prop} (h : a := by rw [hg]; exact Nat.ne_of_lt (X1.lt (show X1 w0 _ g t103 t104 t105 t106 from by repeat ((with_reducible exact Q1.out))))) : a := h
theorem mZ {a : Prop} (h : a := by rw [hg]; exact Nat.ne_of_lt (X1.lt (show X1 w0 _ g Y1 U1 V3 z3 from by repeat ((with_reducible exact Q1.out))))) : a := h
theorem aZ {a : Prop} (h : a := by rw [hg]; exact Nat.ne_of_gt (X1.lt (show X1 w0 _ g t103 t104 t105 t106 from by repeat ((with_reducible exact Q1.out))))) : a := h
theorem QY {a : Prop} (h : a := by rw [hg]; exact Nat.ne_of_gt (X1.lt (show X1 w0 _ g Y1 U1 V3 z3 from by repeat ((with_reducible exact Q1.out))))) : a := h
theorem dP {a : Prop} (h : a := by repeat ((with_reducible first | exact I.out | apply q5))) : a := h
theorem jP {a : Prop} (h : a := by repeat ((with_reducible first | exact Q1.out | apply X1.drewN))) : a := h
theorem kV {a : Prop} (h : a := by repeat ((with_reducible first | exact Q1.out | apply X1.drewN | apply X1.set_1))) : a := h
theorem CV {a : Prop} (h : a := by repeat ((with_reducible first | exact HK.out | apply F1.set_ | apply dC))) : a := h
theorem BD {a : Prop} (h : a := by dsimp only; omega) : a := h
theorem ZC {a : Prop} (h : a := by exact (S0 Q0 I.out)) : a := h
theorem NM {a : Prop} (h : a := by have := S4.out; have := OK.out; omega) : a := h
theorem XQ {a : Prop} (h : a := by rw [List.length_append, List.length_singleton]; omega) : a := h
theorem iR {a : Prop} (h : a := by rw [hg]; exact (S3 (X2 H0 I3 I.out))) : a := h
theorem pL {a : Prop} (h : a := by rw [← n6]; exact (bq o0.out)) : a := h
theorem rP {a : Prop} (h : a := by rw [← n6]; exact (X2 H0 Q0 I.out)) : a := h
theorem qqZ {a : Prop} (h : a := by exact (J2.one (show Kd.M (Kd.int .u8) _ _ _ (((rd R3 K_) / 256) % 256) [.int .u8 (((rd R3 K_) / 256) % 256)] from rfl) (J2.one (show Kd.M (Kd.int .u8) _ _ _ ((rd R3 K_) % 256) [.int .u8 ((rd R3 K_) % 256)] from rfl) (J2.none _ _)))) : a := h
theorem xV {a : Prop} (h : a := by have := UB.out; have := xF.out; have := Xb.out; omega) : a := h
theorem ag0 {a : Prop} (h : a := by exact Kd.Ul (Kd.Y5 (Kd.PY rfl (Kd.Y5 (ok' := fun k_ => ((fun _ => True)) k_ ∧ some k_ ≠ (u104002 : Value).ownBlock) (Kd.RB (V5.out) (Kd.cP bB.out) (by decide)) (fun k_ X => ⟨trivial, X.2⟩))) (fun _ h_ => h_))) : a := h
theorem XY {a : Prop} (h : a := by have := S4.out; have := xF.out; have := ZI.out; have := CS.out; omega) : a := h
theorem KZ {a : Prop} (h : a := by repeat ((with_reducible first | exact HK.out | apply F1.set_))) : a := h
theorem xZ {a : Prop} (h : a := by have : (9 : Int) < (a0.size : Int) := of_decide_eq_true R1; omega) : a := h
theorem vP {a : Prop} (h : a := by rw [List.length_append]; omega) : a := h
theorem ao5 {a : Prop} (h : a := by (with_reducible repeat (first | apply Kd.eC | apply Kd.gC | apply Kd.eB)); exact Kd.J6 X3.out (fun _ X => ⟨⟨X.1, ⟨X.2.2.1, ⟨X.2.2.2.1, X.2.2.2.2⟩⟩⟩, X.2.1⟩)) : a := h
theorem ag8 {a : Prop} (h : a := by (try simp only [List.map_toArray, List.map_cons, List.map_nil]); first | done | (simp only [vF]; rfl) | rfl | (simp only [List.length_drop, List.length_take]; rfl)) : a := h
theorem YM {a : Prop} (h : a := by exact Kd.nP _ _ _ _ _) : a := h
theorem an6 {a : Prop} (h : a := by (with_reducible repeat (first | apply Kd.WH | apply Kd.gI | apply Kd.OF)); exact Kd.kD bB.out (fun k_ X => ⟨trivial, fun e_ => X e_⟩)) : a := h
theorem CR {a : Prop} (h : a := by repeat (exact (Kd.n_ N5.out).2.2)) : a := h
theorem TH {a : Prop} (h : a := by go_simp; rfl) : a := h
theorem PM {a : Prop} (h : a := by exact Kd.Zm T3) : a := h
theorem ar1 {a : Prop} (h : a := by (with_reducible repeat (first | apply Kd.GE | apply Kd.dE | apply Kd.EE)); exact Kd.Y5 N5.out (fun _ X => ⟨X.2, X.1.2⟩)) : a := h
theorem nV {a : Prop} (h : a := by rw [← n6]; exact (S0 H0 I.out)) : a := h
theorem SY {a : Prop} (h : a := by show w.heap.size + 1 + 1 ≠ w.heap.size; omega) : a := h
theorem TY {a : Prop} (h : a := by rcases cy6 hd with rfl | rfl | rfl <;> decide) : a := h
theorem Am {a : Prop} (h : a := by have : (11 : Int) < (a0.size : Int) := of_decide_eq_true R1; omega) : a := h
theorem ag5 {a : Prop} (h : a := by (with_reducible repeat (first | apply Kd.GE | apply Kd.dE | apply Kd.EE)); exact Kd.Y5 n5.out (fun _ X => trivial)) : a := h
theorem oV {a : Prop} (h : a := by repeat (exact (Kd.cB kI.out I.out))) : a := h
theorem tZ {a : Prop} (h : a := by show w.heap.size + 1 ≠ w.heap.size; omega) : a := h
theorem El {a : Prop} (h : a := by rw [List.length_append]; simp only [List.length_cons]; omega) : a := h
theorem Fl {a : Prop} (h : a := by have := S4.out; have := HV.out; have := KC.out; omega) : a := h
theorem VY {a : Prop} (h : a := by rw [pH]; simpa using hs) : a := h
theorem dR {a : Prop} (h : a := by rw [MN.out]; simp) : a := h
theorem Jl {a : Prop} (h : a := by have := S4.out; have := XW.out; have := KC.out; omega) : a := h
theorem Um {a : Prop} (h : a := by repeat ((with_reducible first | exact Q1.out | apply X1.set_2))) : a := h
theorem EZ {a : Prop} (h : a := by first | omega | exact Nat.le_refl _) : a := h
end Go.Proofs.YtdmnknhlibaaoaaW.PrintWords
