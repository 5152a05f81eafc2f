/- Proofs that stand often in the printed texts, each told once: a word is run where it stands, with the names that stand there. -/
import Derived.ArgAppend
import Derived.Below
import Derived.BigQuiet
import Derived.ChangeArms
import Derived.ChangeOld
import Derived.ChangeSame
import Derived.Deep.AppendLies
import Derived.Deep.CutBlock
import Derived.Deep.DeepCutAuto
import Derived.Deep.Draws
import Derived.Deep.Fields
import Derived.Deep.LoopGhost
import Derived.Deep.OwnRows
import Derived.Deep.QuietTactic
import Derived.Deep.RegionHeld3
import Derived.Deep.RegionLaw
import Derived.Deep.Slices
import Derived.IntWalk
import Derived.KernelRfl
import Derived.Laws.BitsLemmas
import Derived.Laws.BytesArg
import Derived.Laws.IdiomArrays
import Derived.Laws.IdiomCopy
import Derived.Laws.MakeOwn
import Derived.Laws.OwnMore
import Derived.Laws.Rows
import Derived.Laws.Slices
import Derived.Laws.StructEq
import Derived.Lib.AppendStr
import Derived.Lib.ConvBytes
import Derived.Lib.Hide
import Derived.LoopIn
import Derived.LoopNIn
import Derived.Maps.AppendAt
import Derived.OneCell
import Derived.OpenShut
import Derived.OrdersHeld
import Derived.Outline
import Derived.OwnWalk
import Derived.OwnWalkIn
import Derived.ProofKit
import Derived.RangeFuncBound
import Derived.RangeFuncBox
import Derived.RangeFuncCalls
import Derived.RangeFuncLeaves
import Derived.RangeFuncNested
import Derived.RowKit
import Derived.RowKit3
import Derived.Shelf.RegionOpen
import Derived.ShutString
import Derived.SizedLaws
import Derived.StillTactics
import Derived.StillTailTactics
import Derived.Tactics
import Derived.Tactics2
import Derived.TacticsInMore
import Derived.Test.YtendmmagjjhfnaaProg
import Derived.Test.YtendmmagjjhfnaaRows
import Derived.WalkKit
import Derived.WalkSpells
import Derived.WideLaws
import Derived.Test.YtendmmagjjhfnaaC0
namespace Go.Proofs.YtendmmagjjhfnaaW.PrintWords
theorem qq0 {a : Prop} (h : a := by first | (with_reducible assumption) | assumption) : a := h
theorem qq1 {a : Prop} (h : a := by (try simp only [List.map_toArray, List.map_cons, List.map_nil]); first | done | rfl | (simp only [List.length_drop, List.length_take]; rfl)) : a := h
theorem qq2 {a : Prop} (h : a := by first | rfl | (simp [errW_none, errW_some] <;> rfl) | (simp [*, errW_none, errW_some] <;> rfl)) : a := h
theorem qq3 {a : Prop} (h : a := by first | rfl | (simp; done) | (simp [*]; done)) : a := h
theorem qq4 {a : Prop} (h : a := by (try simp only [List.map_toArray, List.map_cons, List.map_nil]); first | rfl) : a := h
theorem qq5 {a : Prop} (h : a := by repeat (first | (with_reducible first | exact HI0.out | apply IsS64.alloc | apply IsS64.drewN | apply IsS64.drew | apply IsS64.set_0 | apply IsS64.set_1 | apply IsS64.set_2 | apply IsS64.set_3 | apply IsS64.set_4 | apply IsS64.set_5 | apply IsS64.set_6 | apply IsS64.set_7) | exact HI0.out)) : a := h
theorem qq6 {a : Prop} (h : a := by repeat (first | exact Drawn0.refl _ | apply Drawn0.step)) : a := h
theorem qq7 {a : Prop} (h : a := by repeat (first | exact (Kd.C_below HR102_0.out HB.out))) : a := h
theorem qq8 {a : Prop} (h : a := by repeat (first | (with_reducible first | exact HK.out | apply KeepBut.set_ | apply keep_drewN | apply keep_drew | apply keep_alloc) | exact HK.out)) : a := h
theorem qq9 {a : Prop} (h : a := by (with_reducible repeat (first | apply Kd.R_alloc | apply Kd.R_drewN | apply Kd.R_drew)); exact Kd.R_mono (Kd.R_far (p := ⟨gb110, 7, none⟩) (Kd.R_far (p := ⟨gb110, 6, none⟩) (Kd.R_far (p := ⟨gb110, 5, none⟩) (Kd.R_far (p := ⟨gb110, 4, none⟩) (Kd.R_far (p := ⟨gb110, 3, none⟩) (Kd.R_far (p := ⟨gb110, 2, none⟩) (Kd.R_far (p := ⟨gb110, 1, none⟩) (Kd.R_far (p := ⟨gb110, 0, none⟩) (Kd.R_types HO_10.out BK110.out (by decide)) (fun _ hk => hk.2) (.bool (true))) (fun _ hk => hk.2) (.int .i64 ((rd_T38 l0 x2000_1).f1))) (fun _ hk => hk.2) (.slice A109_2 ((rd_T38 l0 x2000_1).f2).length c109_2)) (fun _ hk => hk.2) (.bool ((rd_T38 l0 x2000_1).f3))) (fun _ hk => hk.2) (.bool ((rd_T38 l0 x2000_1).f4))) (fun _ hk => hk.2) (.bool ((rd_T38 l0 x2000_1).f5))) (fun _ hk => hk.2) (.bool ((rd_T38 l0 x2000_1).f6))) (fun _ hk => hk.2) (.int .i64 ((rd_T38 l0 x2000_1).f7))) (fun _ hk => hk.1)) : a := h
theorem qqa {a : Prop} (h : a := by (with_reducible repeat (first | apply Kd.R_alloc | apply Kd.R_drewN | apply Kd.R_drew)); exact Kd.R_mono (Kd.R_far (p := ⟨gb110, 7, none⟩) (Kd.R_far (p := ⟨gb110, 6, none⟩) (Kd.R_far (p := ⟨gb110, 5, none⟩) (Kd.R_far (p := ⟨gb110, 4, none⟩) (Kd.R_far (p := ⟨gb110, 3, none⟩) (Kd.R_far (p := ⟨gb110, 2, none⟩) (Kd.R_far (p := ⟨gb110, 1, none⟩) (Kd.R_far (p := ⟨gb110, 0, none⟩) (Kd.R_types HO_9.out BK110.out (by decide)) (fun _ hk => hk.2) (.bool (true))) (fun _ hk => hk.2) (.int .i64 ((rd_T38 l0 x2000_1).f1))) (fun _ hk => hk.2) (.slice A109_2 ((rd_T38 l0 x2000_1).f2).length c109_2)) (fun _ hk => hk.2) (.bool ((rd_T38 l0 x2000_1).f3))) (fun _ hk => hk.2) (.bool ((rd_T38 l0 x2000_1).f4))) (fun _ hk => hk.2) (.bool ((rd_T38 l0 x2000_1).f5))) (fun _ hk => hk.2) (.bool ((rd_T38 l0 x2000_1).f6))) (fun _ hk => hk.2) (.int .i64 ((rd_T38 l0 x2000_1).f7))) (fun _ hk => hk.1)) : a := h
theorem qqb {a : Prop} (h : a := by first | exact Kd.R_nil _ _ _ _ _ | exact Kd.N_nil _ _ _ _ _ | exact Kd.V_nil _ _ _ _ _ | exact Kd.Q_nil _ _ _ _ _ | exact Kd.S_nil _ _ _ _ _) : a := h
theorem qqc {a : Prop} (h : a := by repeat (first | (with_reducible first | exact HB.out | apply below_alloc | apply pw_below_drewN | apply below_drew1) | exact HB.out)) : a := h
theorem qqd {a : Prop} (h : a := by exact (Reps.c8 (show Kd.FK k38 _ _ (⟨false, 0, ([] : List Int), false, false, false, false, 0⟩ : S38) [.bool false, .int .i64 0, .slice none 0 0, .bool false, .bool false, .bool false, .bool false, .int .i64 0] from (k38_mkF _ _ (⟨false, 0, ([] : List Int), false, false, false, false, 0⟩ : S38) (Nat.le_refl _) (Kd.F_nil _ _ _))) (Reps.c8 (show Kd.FK k38 _ _ (⟨false, 2, ([] : List Int), false, false, false, false, 0⟩ : S38) [.bool false, .int .i64 2, .slice none 0 0, .bool false, .bool false, .bool false, .bool false, .int .i64 0] from (k38_mkF _ _ (⟨false, 2, ([] : List Int), false, false, false, false, 0⟩ : S38) (Nat.le_refl _) (Kd.F_nil _ _ _))) (Reps.c8 (show Kd.FK k38 _ _ (⟨false, 0, ([] : List Int), false, false, false, false, 0⟩ : S38) [.bool false, .int .i64 0, .slice none 0 0, .bool false, .bool false, .bool false, .bool false, .int .i64 0] from (k38_mkF _ _ (⟨false, 0, ([] : List Int), false, false, false, false, 0⟩ : S38) (Nat.le_refl _) (Kd.F_nil _ _ _))) (Reps.none _ _))))) : a := h
theorem qqe {a : Prop} (h : a := by (with_reducible repeat (first | apply Kd.S_alloc | apply Kd.S_drewN | apply Kd.S_drew)); exact Kd.S_mono HO_11.out (fun k_ hk => ⟨trivial, fun e_ => e_⟩)) : a := h
theorem qqf {a : Prop} (h : a := by have := HK1.out; first | omega) : a := h
theorem qqg {a : Prop} (h : a := by rw [hg]; exact (below_size (qB HB.out))) : a := h
theorem qqh {a : Prop} (h : a := by (with_reducible repeat (first | apply Kd.R_alloc | apply Kd.R_drewN | apply Kd.R_drew)); exact Kd.R_mono (Kd.R_far (p := ⟨gb110, 7, none⟩) (Kd.R_far (p := ⟨gb110, 6, none⟩) (Kd.R_far (p := ⟨gb110, 5, none⟩) (Kd.R_far (p := ⟨gb110, 4, none⟩) (Kd.R_far (p := ⟨gb110, 3, none⟩) (Kd.R_far (p := ⟨gb110, 2, none⟩) (Kd.R_far (p := ⟨gb110, 1, none⟩) (Kd.R_far (p := ⟨gb110, 0, none⟩) (Kd.R_types HO_10.out BK110.out (by decide)) (fun _ hk => hk.2) (.bool (false))) (fun _ hk => hk.2) (.int .i64 ((rd_T38 l0 x2000_1).f1))) (fun _ hk => hk.2) (.slice A109_2 ((rd_T38 l0 x2000_1).f2).length c109_2)) (fun _ hk => hk.2) (.bool ((rd_T38 l0 x2000_1).f3))) (fun _ hk => hk.2) (.bool ((rd_T38 l0 x2000_1).f4))) (fun _ hk => hk.2) (.bool ((rd_T38 l0 x2000_1).f5))) (fun _ hk => hk.2) (.bool ((rd_T38 l0 x2000_1).f6))) (fun _ hk => hk.2) (.int .i64 ((rd_T38 l0 x2000_1).f7))) (fun _ hk => hk.1)) : a := h
theorem qqi {a : Prop} (h : a := by (with_reducible repeat (first | apply Kd.R_alloc | apply Kd.R_drewN | apply Kd.R_drew)); exact Kd.R_mono (Kd.R_far (p := ⟨gb110, 7, none⟩) (Kd.R_far (p := ⟨gb110, 6, none⟩) (Kd.R_far (p := ⟨gb110, 5, none⟩) (Kd.R_far (p := ⟨gb110, 4, none⟩) (Kd.R_far (p := ⟨gb110, 3, none⟩) (Kd.R_far (p := ⟨gb110, 2, none⟩) (Kd.R_far (p := ⟨gb110, 1, none⟩) (Kd.R_far (p := ⟨gb110, 0, none⟩) (Kd.R_types HO_9.out BK110.out (by decide)) (fun _ hk => hk.2) (.bool (false))) (fun _ hk => hk.2) (.int .i64 ((rd_T38 l0 x2000_1).f1))) (fun _ hk => hk.2) (.slice A109_2 ((rd_T38 l0 x2000_1).f2).length c109_2)) (fun _ hk => hk.2) (.bool ((rd_T38 l0 x2000_1).f3))) (fun _ hk => hk.2) (.bool ((rd_T38 l0 x2000_1).f4))) (fun _ hk => hk.2) (.bool ((rd_T38 l0 x2000_1).f5))) (fun _ hk => hk.2) (.bool ((rd_T38 l0 x2000_1).f6))) (fun _ hk => hk.2) (.int .i64 ((rd_T38 l0 x2000_1).f7))) (fun _ hk => hk.1)) : a := h
theorem qqj {a : Prop} (h : a := by first | (go_simp; done) | (go_simp; rfl)) : a := h
theorem qqk {a : Prop} (h : a := by (with_reducible repeat (first | apply Kd.S_alloc | apply Kd.S_drewN | apply Kd.S_drew)); exact HO_11.out) : a := h
theorem qql {a : Prop} (h : a := by first | (simp only [putAll, Act.put, List.setIfInBounds_toArray, List.set_cons_zero, List.set_cons_succ]; done) | (simp only [putAll, Act.put, List.setIfInBounds_toArray, List.set_cons_zero, List.set_cons_succ]; rfl)) : a := h
theorem qqm {a : Prop} (h : a := by exact Kd.C_below HR101_2.out (qS1 GE102 HB.out)) : a := h
theorem qqn {a : Prop} (h : a := by first | omega | exact Nat.le_refl _) : a := h
theorem qqo {a : Prop} (h : a := by exact HC102_0.out) : a := h
theorem qqp {a : Prop} (h : a := by first | (with_reducible assumption)) : a := h
theorem qqq {a : Prop} (h : a := by have := World.block_lt_of_cell? _ _ hx110_0; first | rwa [add_block] at this) : a := h
theorem qqr {a : Prop} (h : a := by (with_reducible repeat (first | apply Kd.R_alloc | apply Kd.R_drewN | apply Kd.R_drew)); exact Kd.R_mono (Kd.R_far (p := ⟨g, 0, none⟩) (Kd.R_far (p := ⟨g, 3, none⟩) (IsS64.apart HI1.out HO_10.out (by decide)) (fun _ hk => hk.2) (.bool true)) (fun _ hk => hk.2) (.int .i64 (wrap64 (t120 + 1)))) (fun _ hk => hk.1)) : a := h
theorem qqs {a : Prop} (h : a := by (with_reducible repeat (first | apply Kd.R_alloc | apply Kd.R_drewN | apply Kd.R_drew)); exact Kd.R_mono (Kd.R_far (p := ⟨g, 0, none⟩) (Kd.R_far (p := ⟨g, 3, none⟩) (IsS64.apart HI1.out HO_9.out (by decide)) (fun _ hk => hk.2) (.bool true)) (fun _ hk => hk.2) (.int .i64 (wrap64 (t120 + 1)))) (fun _ hk => hk.1)) : a := h
theorem qqt {a : Prop} (h : a := by have := HK1.out; have := HJ10.out; have := HJ17.out; have := HJ38.out; omega) : a := h
theorem qqu {a : Prop} (h : a := by first | (rw [add_block]; exact hn110_4)) : a := h
theorem qqv {a : Prop} (h : a := by first | (rw [add_block]; exact hn110_3)) : a := h
theorem qqw {a : Prop} (h : a := by first | (rw [add_block]; exact hn110_2)) : a := h
theorem qqx {a : Prop} (h : a := by first | (rw [add_block]; exact hn110_1)) : a := h
theorem qqy {a : Prop} (h : a := by first | (rw [add_block]; exact hn110_0)) : a := h
theorem qqz {a : Prop} (h : a := by first | (rw [add_block]; exact hn108_0)) : a := h
theorem qqA {a : Prop} (h : a := by first | (rw [add_block]; exact hn107_0)) : a := h
theorem qqB {a : Prop} (h : a := by have := HK1.out; have := HJ10.out; first | omega | exact Nat.le_refl _) : a := h
theorem qqC {a : Prop} (h : a := by have := HK1.out; have := HJ3.out; omega) : a := h
theorem qqD {a : Prop} (h : a := by rw [hw]; exact below_set (HB.out) GB23.out) : a := h
theorem qqE {a : Prop} (h : a := by have := HK1.out; have := HJ8.out; have := HJ15.out; have := HJ22.out; first | omega) : a := h
theorem qqF {a : Prop} (h : a := by rw [← HF.out]; exact (fi_none _ _ _ _ (Nat.le_refl _)).symm) : a := h
theorem qqG {a : Prop} (h : a := by rw [Bool.eq_iff_iff, decide_eq_true_eq, decide_eq_true_eq, List.cons.injEq]; exact ⟨fun h => ⟨he, h⟩, fun h => h.2⟩) : a := h
theorem qqH {a : Prop} (h : a := by rw [← HF.out]; exact (fi_yes _ _ _ hlt HP.out).symm) : a := h
theorem qqI {a : Prop} (h : a := by simp only [List.map_toArray, List.map_cons, List.map_nil]; rfl) : a := h
theorem qqJ {a : Prop} (h : a := by first | (go_simp; done)) : a := h
theorem qqK {a : Prop} (h : a := by rw [List.drop_of_length_le (by omega), List.drop_of_length_le (by omega)]; simp) : a := h
theorem qqL {a : Prop} (h : a := by rw [decide_eq_false (show ¬ (x.f1 = 0 ∨ 2 ≤ x.f1 ∧ x.f1 ≤ 9) by omega)]; rfl) : a := h
theorem qqM {a : Prop} (h : a := by have := HJ1.out; first | omega | exact Nat.le_refl _) : a := h
theorem qqN {a : Prop} (h : a := by repeat (first | exact (Kd.R_reads' HO114.out).2.2)) : a := h
theorem qqO {a : Prop} (h : a := by repeat (first | exact (Kd.R_reads' HO110.out).2.2)) : a := h
theorem qqP {a : Prop} (h : a := by have := HK1.out; omega) : a := h
theorem qqQ {a : Prop} (h : a := by rw [hg]; exact Nat.ne_of_lt (blk_lt (bq BK101.out))) : a := h
theorem qqR {a : Prop} (h : a := by rw [hg]; exact Nat.ne_of_gt (blk_lt (bq BK101.out))) : a := h
theorem qqS {a : Prop} (h : a := by exact (Reps.one (show Kd.M (Kd.int .i64) _ _ _ (wrap64 (1 + (wrap64 (Int.tmod a0_1 3)))) [.int .i64 (wrap64 (1 + (wrap64 (Int.tmod a0_1 3))))] from rfl) (Reps.none _ _))) : a := h
theorem qqT {a : Prop} (h : a := by have := HJ5.out; have := HJ20.out; first | omega | exact Nat.le_refl _) : a := h
theorem qqU {a : Prop} (h : a := by rw [hg]; exact (below_size (qS1 GE101 HB.out))) : a := h
theorem qqV {a : Prop} (h : a := by (with_reducible repeat (first | apply Kd.R_alloc | apply Kd.R_drewN | apply Kd.R_drew)); exact Kd.R_mono HO107.out (fun _ hk => trivial)) : a := h
theorem qqW {a : Prop} (h : a := by (with_reducible repeat (first | apply Kd.R_alloc | apply Kd.R_drewN | apply Kd.R_drew)); exact Kd.R_mono HO105.out (fun _ hk => trivial)) : a := h
theorem qqX {a : Prop} (h : a := by rw [List.drop_zero]; rfl) : a := h
theorem qqY {a : Prop} (h : a := by rw [decide_eq_false]; intro e; rw [e] at h; exact h rfl) : a := h
theorem qqZ {a : Prop} (h : a := by have := HJ5.out; have := HJ20.out; have := HJ34.out; have := HJ50.out; first | omega | exact Nat.le_refl _) : a := h
end Go.Proofs.YtendmmagjjhfnaaW.PrintWords
