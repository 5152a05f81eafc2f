/- Proofs that stand often in the printed texts, each told once: a word is run where it stands, with the names that stand there. -/
import Derived.ArgAppend
import Derived.Below
import Derived.BigQuiet
import Derived.ChangeArms
import Derived.ChangeOld
import Derived.ChangeSame
import Derived.Deep.AppendLies
import Derived.Deep.CutBlock
import Derived.Deep.DeepCutAuto
import Derived.Deep.Draws
import Derived.Deep.Fields
import Derived.Deep.LoopGhost
import Derived.Deep.OwnRows
import Derived.Deep.QuietTactic
import Derived.Deep.RegionHeld3
import Derived.Deep.RegionLaw
import Derived.Deep.Slices
import Derived.Defers
import Derived.Handed
import Derived.IntWalk
import Derived.KernelRfl
import Derived.LaidLaws
import Derived.Laws.BitsLemmas
import Derived.Laws.BytesArg
import Derived.Laws.Cover3
import Derived.Laws.IdiomCopy
import Derived.Laws.MakeOwn
import Derived.Laws.OwnMore
import Derived.Laws.Rows
import Derived.Laws.Slices
import Derived.Laws.StructEq
import Derived.Lib.AppendStr
import Derived.Lib.ConvBytes
import Derived.Lib.Hide
import Derived.Lib.LaidTab
import Derived.Lib.SlBytesConst
import Derived.Lib.SmallJoins
import Derived.Lib.Strings
import Derived.LoopIn
import Derived.LoopNIn
import Derived.Maps.AppendAt
import Derived.OneCell
import Derived.OpenShut
import Derived.OrdersHeld
import Derived.Outline
import Derived.OwnWalk
import Derived.OwnWalkIn
import Derived.ProofKit
import Derived.RangeFuncBound
import Derived.RangeFuncBox
import Derived.RangeFuncCalls
import Derived.RangeFuncLeaves
import Derived.RangeFuncNested
import Derived.Recover
import Derived.RowKit
import Derived.RowKit3
import Derived.SevenTiedAt
import Derived.Shelf.Abstract
import Derived.Shelf.RegionOpen
import Derived.ShutString
import Derived.SizedLaws
import Derived.StillTactics
import Derived.Tactics
import Derived.Tactics2
import Derived.TacticsInMore
import Derived.Test.YtdmnknhlibaaoaaDoorCards
import Derived.Test.YtdmnknhlibaaoaaDoorProg
import Derived.Test.YtdmnknhlibaaoaaDoorRows
import Derived.Test.YtdmnknhlibaaoaaDoorTie
import Derived.WalkKit
import Derived.WalkSpells
import Derived.WideLaws
import Derived.Test.YtdmnknhlibaaoaaDoorC0
namespace Go.Proofs.YtdmnknhlibaaoaaDoorW.PrintWords
theorem qq0 {a : Prop} (h : a := by (try simp only [List.map_toArray, List.map_cons, List.map_nil]); first | done | rfl | (simp only [List.length_drop, List.length_take]; rfl)) : a := h
theorem qq1 {a : Prop} (h : a := by repeat (first | (with_reducible first | exact HI0.out | apply IsS91.alloc | apply IsS91.drewN | apply IsS91.drew | apply IsS91.set_0 | apply IsS91.set_1 | apply IsS91.set_2 | apply IsS91.set_3) | exact HI0.out)) : a := h
theorem qq2 {a : Prop} (h : a := by repeat (first | (with_reducible first | exact HK.out | apply KeepBut.set_ | apply keep_drewN | apply keep_drew | apply keep_alloc) | exact HK.out)) : a := h
theorem qq3 {a : Prop} (h : a := by first | (with_reducible assumption) | assumption) : a := h
theorem qq4 {a : Prop} (h : a := by first | rfl | (simp [errW_none, errW_some] <;> rfl) | (simp [*, errW_none, errW_some] <;> rfl)) : a := h
theorem qq5 {a : Prop} (h : a := by (with_reducible repeat (first | apply Kd.R_alloc | apply Kd.R_drewN | apply Kd.R_drew)); exact (Kd.R_mono (Kd.R_far (p := ⟨gb102, 5, none⟩) (Kd.R_far (p := ⟨gb102, 4, none⟩) (Kd.R_far (p := ⟨gb102, 3, none⟩) (Kd.R_far (p := ⟨gb102, 2, none⟩) (Kd.R_far (p := ⟨gb102, 1, none⟩) (Kd.R_far (p := ⟨gb102, 0, none⟩) (Kd.R_types HO_4.out BK102.out (by decide)) (fun _ hk => hk.2) (.int .i64 ((rd_T39 l0 x11_1).f0))) (fun _ hk => hk.2) (.int .i64 ((rd_T39 l0 x11_1).f1))) (fun _ hk => hk.2) (.int .i64 ((rd_T39 l0 x11_1).f2))) (fun _ hk => hk.2) (.int .i64 ((rd_T39 l0 x11_1).f3))) (fun _ hk => hk.2) (.int .i64 ((rd_T39 l0 x11_1).f4))) (fun _ hk => hk.2) (.string ((rd_T39 l0 x11_1).f5))) (fun _ h_ => h_.1))) : a := h
theorem qq6 {a : Prop} (h : a := by first | rfl | (simp; done) | (simp [*]; done)) : a := h
theorem qq7 {a : Prop} (h : a := by rw [hg]; exact (below_size (qB HB.out))) : a := h
theorem qq8 {a : Prop} (h : a := by first | (go_simp; done) | (go_simp; rfl)) : a := h
theorem qq9 {a : Prop} (h : a := by repeat (first | exact Drawn0.refl _ | apply Drawn0.step)) : a := h
theorem qqa {a : Prop} (h : a := by exact (fun k_ hk => Kd.fresh' (Kd.R_lt (qR HO106.out)) k_ hk)) : a := h
theorem qqb {a : Prop} (h : a := by (with_reducible repeat (first | apply Kd.R_alloc | apply Kd.R_drewN | apply Kd.R_drew)); exact Kd.R_mono HO_4.out (fun _ hk => hk.2)) : a := h
theorem qqc {a : Prop} (h : a := by rw [hg]; exact Nat.ne_of_lt (blk_lt (bq BK101.out))) : a := h
theorem qqd {a : Prop} (h : a := by rw [hg]; exact Nat.ne_of_gt (blk_lt (bq BK101.out))) : a := h
theorem qqe {a : Prop} (h : a := by rw [hg]; exact (below_size (qS1 GE101 HB.out))) : a := h
theorem qqf {a : Prop} (h : a := by exact (below_size (qS1 GE102 HB.out))) : a := h
theorem qqg {a : Prop} (h : a := by first | exact HM13.out.be | exact below_drew1 HM13.out.be) : a := h
theorem qqh {a : Prop} (h : a := by first | exact Kd.S_base ho0 | exact Kd.N_base ho0) : a := h
theorem qqi {a : Prop} (h : a := by (with_reducible repeat (first | apply Kd.N_alloc | apply Kd.N_drewN | apply Kd.N_drew)); exact (Kd.N_mono (Kd.N_far (p := ⟨gb123, 2, none⟩) (Kd.N_far (p := ⟨gb123, 1, none⟩) (Kd.N_far (p := ⟨gb123, 0, none⟩) (Kd.N_mono HO120.out (fun k_ hk => (⟨hk, hk.2⟩ : _ ∧ k_ ≠ gb123))) (fun _ hk => hk.2) (.int .i64 t116)) (fun _ hk => hk.2) (.int .i64 t117)) (fun _ hk => hk.2) (.slice Ao42 t118.length co42)) (fun _ h_ => h_.1))) : a := h
theorem qqj {a : Prop} (h : a := by (with_reducible repeat (first | apply Kd.N_alloc | apply Kd.N_drewN | apply Kd.N_drew)); exact (Kd.N_mono (Kd.N_far (p := ⟨gb123, 2, none⟩) (Kd.N_far (p := ⟨gb123, 1, none⟩) (Kd.N_far (p := ⟨gb123, 0, none⟩) (Kd.N_mono HO112.out (fun k_ hk => (⟨hk, hk.2⟩ : _ ∧ k_ ≠ gb123))) (fun _ hk => hk.2) (.int .i64 t116)) (fun _ hk => hk.2) (.int .i64 t117)) (fun _ hk => hk.2) (.slice Ao42 t118.length co42)) (fun _ h_ => h_.1))) : a := h
theorem qqk {a : Prop} (h : a := by (with_reducible repeat (first | apply Kd.N_alloc | apply Kd.N_drewN | apply Kd.N_drew)); exact (Kd.N_mono (Kd.N_far (p := ⟨gb113, 2, none⟩) (Kd.N_far (p := ⟨gb113, 1, none⟩) (Kd.N_far (p := ⟨gb113, 0, none⟩) (Kd.N_mono HO112.out (fun k_ hk => (⟨hk, hk.2⟩ : _ ∧ k_ ≠ gb113))) (fun _ hk => hk.2) (.int .i64 0)) (fun _ hk => hk.2) (.int .i64 96)) (fun _ hk => hk.2) (.slice Ao34 y110.length co34)) (fun _ h_ => h_.1))) : a := h
theorem qql {a : Prop} (h : a := by first | omega | exact Nat.le_refl _) : a := h
theorem qqm {a : Prop} (h : a := by have := HK1.out; omega) : a := h
theorem qqn {a : Prop} (h : a := by exact (qS1 GE102 HB.out)) : a := h
theorem qqo {a : Prop} (h : a := by (with_reducible repeat (first | apply Kd.N_alloc | apply Kd.N_drewN | apply Kd.N_drew)); exact (Kd.N_mono (Kd.N_far (p := ⟨gb110, 2, none⟩) (Kd.N_mono HO131.out (fun k_ hk => (⟨hk, hk.2.2.2⟩ : _ ∧ k_ ≠ gb110))) (fun _ hk => hk.2) (.slice Ao128 y129.length co128)) (fun _ h_ => h_.1))) : a := h
theorem qqp {a : Prop} (h : a := by rw [hg]; exact Nat.ne_of_lt (IsS91.lt (show IsS91 w0 _ g s0_0 s0_1 s0_2 s0_3 from by repeat (first | (with_reducible first | exact HI0.out | apply IsS91.alloc | apply IsS91.drewN | apply IsS91.drew | apply IsS91.set_0 | apply IsS91.set_1 | apply IsS91.set_2 | apply IsS91.set_3) | exact HI0.out)))) : a := h
theorem qqq {a : Prop} (h : a := by rw [hg]; exact Nat.ne_of_gt (IsS91.lt (show IsS91 w0 _ g s0_0 s0_1 s0_2 s0_3 from by repeat (first | (with_reducible first | exact HI0.out | apply IsS91.alloc | apply IsS91.drewN | apply IsS91.drew | apply IsS91.set_0 | apply IsS91.set_1 | apply IsS91.set_2 | apply IsS91.set_3) | exact HI0.out)))) : a := h
theorem qqr {a : Prop} (h : a := by rw [hg]; exact (keep_size (w := w) (g := g) (row := none) qq2)) : a := h
theorem qqs {a : Prop} (h : a := by have := HJ1.out; have := HJ8.out; have := HJ16.out; first | omega | exact Nat.le_refl _) : a := h
theorem qqt {a : Prop} (h : a := by first | exact q152 | exact of_decide_eq_true qq3 | (have e_ := (Kd.N_reads' HO_142002.out).1; omega)) : a := h
theorem qqu {a : Prop} (h : a := by first | exact q150 | exact of_decide_eq_true qq3 | (have e_ := (Kd.N_reads' HO_142002.out).1; omega)) : a := h
theorem qqv {a : Prop} (h : a := by first | exact q148 | exact of_decide_eq_true qq3 | (have e_ := (Kd.N_reads' HO_142002.out).1; omega)) : a := h
theorem qqw {a : Prop} (h : a := by first | exact q146 | exact of_decide_eq_true qq3 | (have e_ := (Kd.N_reads' HO_142002.out).1; omega)) : a := h
theorem qqx {a : Prop} (h : a := by (with_reducible repeat (first | apply Kd.N_alloc | apply Kd.N_drewN | apply Kd.N_drew)); exact (Kd.N_mono (Kd.N_far (p := ⟨gb110, 2, none⟩) (Kd.N_mono HO131.out (fun k_ hk => (⟨hk, hk.2.2.2⟩ : _ ∧ k_ ≠ gb110))) (fun _ hk => hk.2) (.slice Ao61 y129.length co61)) (fun _ h_ => h_.1))) : a := h
theorem qqy {a : Prop} (h : a := by first | exact Kd.R_nil _ _ _ _ _ | exact Kd.N_nil _ _ _ _ _ | exact Kd.V_nil _ _ _ _ _ | exact Kd.Q_nil _ _ _ _ _ | exact Kd.S_nil _ _ _ _ _) : a := h
theorem qqz {a : Prop} (h : a := by dsimp only; omega) : a := h
theorem qqA {a : Prop} (h : a := by exact (Reps.one (show Kd.M (Kd.int .u8) _ _ _ (((rd y107 x33_1) / 256) % 256) [.int .u8 (((rd y107 x33_1) / 256) % 256)] from rfl) (Reps.one (show Kd.M (Kd.int .u8) _ _ _ ((rd y107 x33_1) % 256) [.int .u8 ((rd y107 x33_1) % 256)] from rfl) (Reps.none _ _)))) : a := h
theorem qqB {a : Prop} (h : a := by first | (simp only [putAll, Act.put, List.setIfInBounds_toArray, List.set_cons_zero, List.set_cons_succ]; done) | (simp only [putAll, Act.put, List.setIfInBounds_toArray, List.set_cons_zero, List.set_cons_succ]; rfl)) : a := h
theorem qqC {a : Prop} (h : a := by rw [hg]; exact (below_size (qS3 GE101 GE104 GE110 HB.out))) : a := h
theorem qqD {a : Prop} (h : a := by rw [List.length_append, List.length_singleton]; omega) : a := h
theorem qqE {a : Prop} (h : a := by have h_ : (x13_1 : Int) < ((x4_1.length : Int) : Int) := of_decide_eq_true qq3; first | exact h_ | (have e_ := (Kd.R_reads' HO_4.out).1; omega) | simpa using h_) : a := h
theorem qqF {a : Prop} (h : a := by go_simp; rfl) : a := h
theorem qqG {a : Prop} (h : a := by (with_reducible repeat (first | apply Kd.R_alloc | apply Kd.R_drewN | apply Kd.R_drew)); exact Kd.R_mono HO106.out (fun _ hk => ⟨hk.2, hk.1.2⟩)) : a := h
theorem qqH {a : Prop} (h : a := by show w.heap.size + 1 + 1 ≠ w.heap.size; omega) : a := h
theorem qqI {a : Prop} (h : a := by (with_reducible repeat (first | apply Kd.R_alloc | apply Kd.R_drewN | apply Kd.R_drew)); exact Kd.R_mono HO116.out (fun _ hk => trivial)) : a := h
theorem qqJ {a : Prop} (h : a := by show w.heap.size + 1 ≠ w.heap.size; omega) : a := h
theorem qqK {a : Prop} (h : a := by rw [List.length_append]; simp only [List.length_cons]; omega) : a := h
theorem qqL {a : Prop} (h : a := by have := HK1.out; have := HK2.out; omega) : a := h
theorem qqM {a : Prop} (h : a := by have := HJ1.out; have := HJ8.out; have := HJ16.out; have := HJ20.out; first | omega | exact Nat.le_refl _) : a := h
theorem qqN {a : Prop} (h : a := by have := HJ1.out; first | omega | exact Nat.le_refl _) : a := h
theorem qqO {a : Prop} (h : a := by first | exact q154 | exact of_decide_eq_true qq3 | (have e_ := (Kd.N_reads' HO_142002.out).1; omega)) : a := h
end Go.Proofs.YtdmnknhlibaaoaaDoorW.PrintWords
