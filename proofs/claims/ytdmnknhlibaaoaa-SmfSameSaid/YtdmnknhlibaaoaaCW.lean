/- Proofs that stand often in the printed texts, each told once: a word is run where it stands, with the names that stand there. -/
import Derived.ArgAppend
import Derived.Below
import Derived.BigQuiet
import Derived.ChangeArms
import Derived.ChangeOld
import Derived.ChangeSame
import Derived.Deep.AppendLies
import Derived.Deep.CutBlock
import Derived.Deep.DeepCutAuto
import Derived.Deep.Draws
import Derived.Deep.Fields
import Derived.Deep.LoopGhost
import Derived.Deep.OwnRows
import Derived.Deep.QuietTactic
import Derived.Deep.RegionHeld3
import Derived.Deep.RegionLaw
import Derived.Deep.Slices
import Derived.Defers
import Derived.IntWalk
import Derived.KernelRfl
import Derived.Laws.BitsLemmas
import Derived.Laws.BytesArg
import Derived.Laws.Cover3
import Derived.Laws.IdiomArrays
import Derived.Laws.IdiomCopy
import Derived.Laws.MakeOwn
import Derived.Laws.OwnMore
import Derived.Laws.Rows
import Derived.Laws.Slices
import Derived.Laws.StructEq
import Derived.Lib.AppendStr
import Derived.Lib.ConvBytes
import Derived.Lib.Hide
import Derived.Lib.SlBytesConst
import Derived.Lib.SmallJoins
import Derived.Lib.Strings
import Derived.Maps.AppendAt
import Derived.OneCell
import Derived.OpenShut
import Derived.OrdersHeld
import Derived.Outline
import Derived.OwnWalk
import Derived.ProofKit
import Derived.Recover
import Derived.RowKit
import Derived.RowKit3
import Derived.ShutString
import Derived.SizedLaws
import Derived.StillTactics
import Derived.Tactics
import Derived.Tactics2
import Derived.Test.YtdmnknhlibaaoaaProg
import Derived.Test.YtdmnknhlibaaoaaRows
import Derived.WalkKit
import Derived.WalkSpells
import Derived.WideLaws
import Derived.Test.YtdmnknhlibaaoaaC0
namespace Go.Proofs.YtdmnknhlibaaoaaW.PrintWords
theorem qq0 {a : Prop} (h : a := by (try simp only [List.map_toArray, List.map_cons, List.map_nil]); first | done | rfl | (simp only [List.length_drop, List.length_take]; rfl)) : a := h
theorem qq1 {a : Prop} (h : a := by first | (simp only [putAll, Act.put, List.setIfInBounds_toArray, List.set_cons_zero, List.set_cons_succ]; done) | (simp only [putAll, Act.put, List.setIfInBounds_toArray, List.set_cons_zero, List.set_cons_succ]; rfl)) : a := h
theorem qq2 {a : Prop} (h : a := by repeat (first | (with_reducible first | exact HI0.out | apply IsS86.alloc | apply IsS86.drewN | apply IsS86.drew | apply IsS86.set_0 | apply IsS86.set_1 | apply IsS86.set_2 | apply IsS86.set_3) | exact HI0.out)) : a := h
theorem qq3 {a : Prop} (h : a := by repeat (first | (with_reducible first | exact HK.out | apply KeepBut.set_ | apply keep_drewN | apply keep_drew | apply keep_alloc) | exact HK.out)) : a := h
theorem qq4 {a : Prop} (h : a := by first | (with_reducible assumption) | assumption) : a := h
theorem qq5 {a : Prop} (h : a := by first | rfl | (simp [errW_none, errW_some] <;> rfl) | (simp [*, errW_none, errW_some] <;> rfl)) : a := h
theorem qq6 {a : Prop} (h : a := by first | (go_simp; done) | (go_simp; rfl)) : a := h
theorem qq7 {a : Prop} (h : a := by (with_reducible repeat (first | apply Kd.R_alloc | apply Kd.R_drewN | apply Kd.R_drew)); exact (Kd.R_mono (Kd.R_far (p := ⟨gb102, 5, none⟩) (Kd.R_far (p := ⟨gb102, 4, none⟩) (Kd.R_far (p := ⟨gb102, 3, none⟩) (Kd.R_far (p := ⟨gb102, 2, none⟩) (Kd.R_far (p := ⟨gb102, 1, none⟩) (Kd.R_far (p := ⟨gb102, 0, none⟩) (Kd.R_types HO_4.out BK102.out (by decide)) (fun _ hk => hk.2) (.int .i64 ((rd_T28 l0 x11_1).f0))) (fun _ hk => hk.2) (.int .i64 ((rd_T28 l0 x11_1).f1))) (fun _ hk => hk.2) (.int .i64 ((rd_T28 l0 x11_1).f2))) (fun _ hk => hk.2) (.int .i64 ((rd_T28 l0 x11_1).f3))) (fun _ hk => hk.2) (.int .i64 ((rd_T28 l0 x11_1).f4))) (fun _ hk => hk.2) (.string ((rd_T28 l0 x11_1).f5))) (fun _ h_ => h_.1))) : a := h
theorem qq8 {a : Prop} (h : a := by first | rfl | (simp; done) | (simp [*]; done)) : a := h
theorem qq9 {a : Prop} (h : a := by rw [hg]; exact (below_size (qB HB.out))) : a := h
theorem qqa {a : Prop} (h : a := by exact (Reps.one (show Kd.M (Kd.int .i64) _ _ _ 0 [.int .i64 0] from rfl) (Reps.one (show Kd.M (Kd.int .i64) _ _ _ 1 [.int .i64 1] from rfl) (Reps.one (show Kd.M (Kd.int .i64) _ _ _ 96 [.int .i64 96] from rfl) (Reps.one (show Kd.M (Kd.int .i64) _ _ _ 127 [.int .i64 127] from rfl) (Reps.one (show Kd.M (Kd.int .i64) _ _ _ 128 [.int .i64 128] from rfl) (Reps.one (show Kd.M (Kd.int .i64) _ _ _ 16384 [.int .i64 16384] from rfl) (Reps.one (show Kd.M (Kd.int .i64) _ _ _ 268435455 [.int .i64 268435455] from rfl) (Reps.none _ _))))))))) : a := h
theorem qqb {a : Prop} (h : a := by rw [hg]; exact Nat.ne_of_lt (blk_lt (bq BK101.out))) : a := h
theorem qqc {a : Prop} (h : a := by rw [hg]; exact Nat.ne_of_gt (blk_lt (bq BK101.out))) : a := h
theorem qqd {a : Prop} (h : a := by first | exact Kd.S_base ho0 | exact Kd.N_base ho0) : a := h
theorem qqe {a : Prop} (h : a := by rw [hg]; exact (below_size (qS2 GE101 GE102 HB.out))) : a := h
theorem qqf {a : Prop} (h : a := by repeat (first | exact Drawn0.refl _ | apply Drawn0.step)) : a := h
theorem qqg {a : Prop} (h : a := by (try simp only [List.map_toArray, List.map_cons, List.map_nil]); first | done | (simp only [hji33]; rfl) | rfl | (simp only [List.length_drop, List.length_take]; rfl)) : a := h
theorem qqh {a : Prop} (h : a := by rw [hg]; exact (below_size (qS1 GE101 HB.out))) : a := h
theorem qqi {a : Prop} (h : a := by rw [hg]; exact (below_size (qS2 GE101 GE108 HB.out))) : a := h
theorem qqj {a : Prop} (h : a := by (with_reducible repeat (first | apply Kd.N_alloc | apply Kd.N_drewN | apply Kd.N_drew)); exact Kd.N_mono HO118.out (fun _ hk => ⟨hk.2.1, ⟨hk.1, ⟨hk.2.2.1, ⟨hk.2.2.2.1, hk.2.2.2.2⟩⟩⟩⟩)) : a := h
theorem qqk {a : Prop} (h : a := by rw [hg]; exact Nat.ne_of_lt (blk_lt (bq BK102.out))) : a := h
theorem qql {a : Prop} (h : a := by rw [hg]; exact Nat.ne_of_gt (blk_lt (bq BK102.out))) : a := h
theorem qqm {a : Prop} (h : a := by exact (fun k_ hk => Kd.fresh' (Kd.R_lt (qR HO106.out)) k_ hk)) : a := h
theorem qqn {a : Prop} (h : a := by simp [Value.ownBlock]) : a := h
theorem qqo {a : Prop} (h : a := by rw [hw21]; simpa using blk_set (blk_set (blk_set (blk_set (blk_set (blk_set (BK109.out) 0 (.int .i64 (rd y103 t106))) 1 (.int .i64 (wrap64 (8 + t108)))) 2 (.int .i64 0)) 3 (.int .i64 0)) 4 (.int .i64 0)) 5 (.string (⟨#[]⟩ : ByteArray))) : a := h
theorem qqp {a : Prop} (h : a := by rw [hg]; exact Nat.ne_of_lt (IsS86.lt (show IsS86 w0 _ g s0_0 s0_1 s0_2 s0_3 from by repeat (first | (with_reducible first | exact HI0.out | apply IsS86.alloc | apply IsS86.drewN | apply IsS86.drew | apply IsS86.set_0 | apply IsS86.set_1 | apply IsS86.set_2 | apply IsS86.set_3) | exact HI0.out)))) : a := h
theorem qqq {a : Prop} (h : a := by rw [hg]; exact Nat.ne_of_gt (IsS86.lt (show IsS86 w0 _ g s0_0 s0_1 s0_2 s0_3 from by repeat (first | (with_reducible first | exact HI0.out | apply IsS86.alloc | apply IsS86.drewN | apply IsS86.drew | apply IsS86.set_0 | apply IsS86.set_1 | apply IsS86.set_2 | apply IsS86.set_3) | exact HI0.out)))) : a := h
theorem qqr {a : Prop} (h : a := by first | rfl | (simp [errW_none, errW_some] <;> rfl) | (simp only [← hji6]; first | rfl | (simp [errW_none, errW_some] <;> rfl)) | (simp [*, errW_none, errW_some] <;> rfl)) : a := h
theorem qqs {a : Prop} (h : a := by (with_reducible repeat (first | apply Kd.R_alloc | apply Kd.R_drewN | apply Kd.R_drew)); exact Kd.R_mono HO_4.out (fun _ hk => hk.2)) : a := h
theorem qqt {a : Prop} (h : a := by (with_reducible repeat (first | apply Kd.R_alloc | apply Kd.R_drewN | apply Kd.R_drew)); exact (Kd.R_mono (Kd.R_far (p := ⟨gb109, 5, none⟩) (Kd.R_far (p := ⟨gb109, 4, none⟩) (Kd.R_far (p := ⟨gb109, 3, none⟩) (Kd.R_far (p := ⟨gb109, 2, none⟩) (Kd.R_far (p := ⟨gb109, 1, none⟩) (Kd.R_far (p := ⟨gb109, 0, none⟩) (Kd.R_types HO105.out BK109.out (by decide)) (fun _ hk => hk.2) (.int .i64 (rd y103 t106))) (fun _ hk => hk.2) (.int .i64 (wrap64 (8 + t108)))) (fun _ hk => hk.2) (.int .i64 0)) (fun _ hk => hk.2) (.int .i64 0)) (fun _ hk => hk.2) (.int .i64 0)) (fun _ hk => hk.2) (.string (⟨#[]⟩ : ByteArray))) (fun _ h_ => h_.1))) : a := h
theorem qqu {a : Prop} (h : a := by rw [e_]; rfl) : a := h
theorem qqv {a : Prop} (h : a := by have e_ := c89; (try simp only [ByteArray.size_append, ByteArray.size_extract, Nat.sub_zero] at e_); have l0_ : (⟨#[0, 0]⟩ : ByteArray).size = 2 := rfl; rw [l0_] at e_; have f0_ := of_eq_true c30b0; have f1_ := of_eq_true c31b0; have f2_ := of_eq_true c34b0; have f3_ := of_eq_true c35b0; have f4_ := of_eq_true c61b0; have f5_ := of_eq_true c62b0; have f6_ := of_eq_true c64b0; have f7_ := of_eq_true c67b0; have f8_ := of_eq_true c68b0; have f9_ := of_eq_true c70b0; have f10_ := of_eq_true c79b0; have f11_ := of_eq_true c82b0; have f12_ := of_eq_true c88b0; omega) : a := h
theorem qqw {a : Prop} (h : a := by (with_reducible repeat (first | apply Kd.N_alloc | apply Kd.N_drewN | apply Kd.N_drew)); exact Kd.N_mono HO_109002.out (fun _ hk => ⟨hk.1.1.2, ⟨hk.2, ⟨hk.1.1.1.1, ⟨hk.1.1.1.2, hk.1.2⟩⟩⟩⟩)) : a := h
theorem qqx {a : Prop} (h : a := by exact (below_size (qS1 GE102 HB.out))) : a := h
theorem qqy {a : Prop} (h : a := by rw [hw21]; exact blk_far (blk_far (blk_far (blk_far (blk_far (blk_far (BK102.out) NB102_109.out _) NB102_109.out _) NB102_109.out _) NB102_109.out _) NB102_109.out _) NB102_109.out _) : a := h
theorem qqz {a : Prop} (h : a := by rw [hw21]; exact blk_far (blk_far (blk_far (blk_far (blk_far (blk_far (BK101.out) NB101_109.out _) NB101_109.out _) NB101_109.out _) NB101_109.out _) NB101_109.out _) NB101_109.out _) : a := h
theorem qqA {a : Prop} (h : a := by first | omega | exact Nat.le_refl _) : a := h
theorem qqB {a : Prop} (h : a := by first | exact HM13.out.be | exact below_drew1 HM13.out.be) : a := h
theorem qqC {a : Prop} (h : a := by rw [hg]; exact Nat.ne_of_lt (blk_lt (bq BK108.out))) : a := h
theorem qqD {a : Prop} (h : a := by rw [hg]; exact Nat.ne_of_gt (blk_lt (bq BK108.out))) : a := h
theorem qqE {a : Prop} (h : a := by have h_ : ((ji8) : Int) < ((y110.length : Int) : Int) := of_decide_eq_true qq4; first | exact h_ | (have e_ := (Kd.N_reads' HO112.out).1; omega) | simpa using h_) : a := h
theorem qqF {a : Prop} (h : a := by have e_ := c71; (try simp only [ByteArray.size_append, ByteArray.size_extract, Nat.sub_zero] at e_); have l0_ : (⟨#[0]⟩ : ByteArray).size = 1 := rfl; rw [l0_] at e_; have f0_ := of_eq_true c30b0; have f1_ := of_eq_true c31b0; have f2_ := of_eq_true c34b0; have f3_ := of_eq_true c35b0; have f4_ := of_eq_true c61b0; have f5_ := of_eq_true c62b0; have f6_ := of_eq_true c64b0; have f7_ := of_eq_true c67b0; have f8_ := of_eq_true c68b0; have f9_ := of_eq_true c70b0; omega) : a := h
theorem qqG {a : Prop} (h : a := by rw [hw21]; exact below_set (below_set (below_set (below_set (below_set (below_set (HB.out) GE109.out) GE109.out) GE109.out) GE109.out) GE109.out) GE109.out) : a := h
theorem qqH {a : Prop} (h : a := by rw [hg]; exact (keep_size (w := w) (g := g) (row := none) qq3)) : a := h
theorem qqI {a : Prop} (h : a := by (with_reducible repeat (first | apply Kd.N_alloc | apply Kd.N_drewN | apply Kd.N_drew)); exact (Kd.N_mono (Kd.N_far (p := ⟨gb126, 2, none⟩) (Kd.N_far (p := ⟨gb126, 1, none⟩) (Kd.N_far (p := ⟨gb126, 0, none⟩) (Kd.N_mono HO_110002.out (fun k_ hk => (⟨hk, hk.2.2.2.2⟩ : _ ∧ k_ ≠ gb126))) (fun _ hk => hk.2) (.int .i64 t119)) (fun _ hk => hk.2) (.int .i64 t120)) (fun _ hk => hk.2) (.slice Ao91 t121.length co91)) (fun _ h_ => h_.1))) : a := h
theorem qqJ {a : Prop} (h : a := by (with_reducible repeat (first | apply Kd.N_alloc | apply Kd.N_drewN | apply Kd.N_drew)); exact (Kd.N_mono (Kd.N_far (p := ⟨gb121, 2, none⟩) (Kd.N_far (p := ⟨gb121, 1, none⟩) (Kd.N_far (p := ⟨gb121, 0, none⟩) (Kd.N_mono HO_109002.out (fun k_ hk => (⟨hk, hk.2.2.2.2⟩ : _ ∧ k_ ≠ gb121))) (fun _ hk => hk.2) (.int .i64 t114)) (fun _ hk => hk.2) (.int .i64 t115)) (fun _ hk => hk.2) (.slice Ao53 t116.length co53)) (fun _ h_ => h_.1))) : a := h
theorem qqK {a : Prop} (h : a := by (with_reducible repeat (first | apply Kd.N_alloc | apply Kd.N_drewN | apply Kd.N_drew)); exact (Kd.N_mono (Kd.N_far (p := ⟨gb134, 2, none⟩) (Kd.N_far (p := ⟨gb134, 1, none⟩) (Kd.N_far (p := ⟨gb134, 0, none⟩) (Kd.N_mono HO_110002.out (fun k_ hk => (⟨hk, hk.2⟩ : _ ∧ k_ ≠ gb134))) (fun _ hk => hk.2) (.int .i64 t127)) (fun _ hk => hk.2) (.int .i64 t128)) (fun _ hk => hk.2) (.slice Ao100 t129.length co100)) (fun _ h_ => h_.1))) : a := h
theorem qqL {a : Prop} (h : a := by (with_reducible repeat (first | apply Kd.N_alloc | apply Kd.N_drewN | apply Kd.N_drew)); exact (Kd.N_mono (Kd.N_far (p := ⟨gb126, 2, none⟩) (Kd.N_far (p := ⟨gb126, 1, none⟩) (Kd.N_far (p := ⟨gb126, 0, none⟩) (Kd.N_mono HO123.out (fun k_ hk => (⟨hk, hk.2.2.2.2⟩ : _ ∧ k_ ≠ gb126))) (fun _ hk => hk.2) (.int .i64 t119)) (fun _ hk => hk.2) (.int .i64 t120)) (fun _ hk => hk.2) (.slice Ao91 t121.length co91)) (fun _ h_ => h_.1))) : a := h
theorem qqM {a : Prop} (h : a := by (with_reducible repeat (first | apply Kd.N_alloc | apply Kd.N_drewN | apply Kd.N_drew)); exact (Kd.N_mono (Kd.N_far (p := ⟨gb121, 2, none⟩) (Kd.N_far (p := ⟨gb121, 1, none⟩) (Kd.N_far (p := ⟨gb121, 0, none⟩) (Kd.N_mono HO118.out (fun k_ hk => (⟨hk, hk.2.2.2.2⟩ : _ ∧ k_ ≠ gb121))) (fun _ hk => hk.2) (.int .i64 t114)) (fun _ hk => hk.2) (.int .i64 t115)) (fun _ hk => hk.2) (.slice Ao53 t116.length co53)) (fun _ h_ => h_.1))) : a := h
theorem qqN {a : Prop} (h : a := by (with_reducible repeat (first | apply Kd.V_alloc | apply Kd.V_drewN | apply Kd.V_drew)); exact (Kd.V_mono (Kd.V_far (p := ⟨gb164, 2, none⟩) (Kd.V_far (p := ⟨gb164, 1, none⟩) (Kd.V_far (p := ⟨gb164, 0, none⟩) (Kd.V_mono HL152_0.out (fun k_ hk => (⟨hk, hk.2⟩ : _ ∧ k_ ≠ gb164))) (fun _ hk => hk.2) (.int .i64 t157)) (fun _ hk => hk.2) (.int .i64 t158)) (fun _ hk => hk.2) (.slice Ao101 t159.length co101)) (fun _ h_ => h_.1))) : a := h
theorem qqO {a : Prop} (h : a := by (with_reducible repeat (first | apply Kd.N_alloc | apply Kd.N_drewN | apply Kd.N_drew)); exact (Kd.N_mono (Kd.N_far (p := ⟨gb164, 2, none⟩) (Kd.N_far (p := ⟨gb164, 1, none⟩) (Kd.N_far (p := ⟨gb164, 0, none⟩) (Kd.N_mono HO161.out (fun k_ hk => (⟨hk, hk.2⟩ : _ ∧ k_ ≠ gb164))) (fun _ hk => hk.2) (.int .i64 t157)) (fun _ hk => hk.2) (.int .i64 t158)) (fun _ hk => hk.2) (.slice Ao101 t159.length co101)) (fun _ h_ => h_.1))) : a := h
theorem qqP {a : Prop} (h : a := by (with_reducible repeat (first | apply Kd.N_alloc | apply Kd.N_drewN | apply Kd.N_drew)); exact (Kd.N_mono (Kd.N_far (p := ⟨gb134, 2, none⟩) (Kd.N_far (p := ⟨gb134, 1, none⟩) (Kd.N_far (p := ⟨gb134, 0, none⟩) (Kd.N_mono HO123.out (fun k_ hk => (⟨hk, hk.2⟩ : _ ∧ k_ ≠ gb134))) (fun _ hk => hk.2) (.int .i64 t127)) (fun _ hk => hk.2) (.int .i64 t128)) (fun _ hk => hk.2) (.slice Ao100 t129.length co100)) (fun _ h_ => h_.1))) : a := h
theorem qqQ {a : Prop} (h : a := by (with_reducible repeat (first | apply Kd.N_alloc | apply Kd.N_drewN | apply Kd.N_drew)); exact (Kd.N_mono (Kd.N_far (p := ⟨gb133, 2, none⟩) (Kd.N_far (p := ⟨gb133, 1, none⟩) (Kd.N_far (p := ⟨gb133, 0, none⟩) (Kd.N_mono HO132.out (fun k_ hk => (⟨hk, hk.2⟩ : _ ∧ k_ ≠ gb133))) (fun _ hk => hk.2) (.int .i64 t104)) (fun _ hk => hk.2) (.int .i64 t105)) (fun _ hk => hk.2) (.slice Ao45 t106.length co45)) (fun _ h_ => h_.1))) : a := h
theorem qqR {a : Prop} (h : a := by (with_reducible repeat (first | apply Kd.N_alloc | apply Kd.N_drewN | apply Kd.N_drew)); exact (Kd.N_mono (Kd.N_far (p := ⟨gb133, 2, none⟩) (Kd.N_far (p := ⟨gb133, 1, none⟩) (Kd.N_far (p := ⟨gb133, 0, none⟩) (Kd.N_mono HO114.out (fun k_ hk => (⟨hk, hk.2⟩ : _ ∧ k_ ≠ gb133))) (fun _ hk => hk.2) (.int .i64 t104)) (fun _ hk => hk.2) (.int .i64 t105)) (fun _ hk => hk.2) (.slice Ao45 t106.length co45)) (fun _ h_ => h_.1))) : a := h
theorem qqS {a : Prop} (h : a := by (with_reducible repeat (first | apply Kd.N_alloc | apply Kd.N_drewN | apply Kd.N_drew)); exact (Kd.N_mono (Kd.N_far (p := ⟨gb123, 2, none⟩) (Kd.N_far (p := ⟨gb123, 1, none⟩) (Kd.N_far (p := ⟨gb123, 0, none⟩) (Kd.N_mono HO120.out (fun k_ hk => (⟨hk, hk.2⟩ : _ ∧ k_ ≠ gb123))) (fun _ hk => hk.2) (.int .i64 t116)) (fun _ hk => hk.2) (.int .i64 t117)) (fun _ hk => hk.2) (.slice Ao42 t118.length co42)) (fun _ h_ => h_.1))) : a := h
theorem qqT {a : Prop} (h : a := by (with_reducible repeat (first | apply Kd.N_alloc | apply Kd.N_drewN | apply Kd.N_drew)); exact (Kd.N_mono (Kd.N_far (p := ⟨gb123, 2, none⟩) (Kd.N_far (p := ⟨gb123, 1, none⟩) (Kd.N_far (p := ⟨gb123, 0, none⟩) (Kd.N_mono HO112.out (fun k_ hk => (⟨hk, hk.2⟩ : _ ∧ k_ ≠ gb123))) (fun _ hk => hk.2) (.int .i64 t116)) (fun _ hk => hk.2) (.int .i64 t117)) (fun _ hk => hk.2) (.slice Ao42 t118.length co42)) (fun _ h_ => h_.1))) : a := h
theorem qqU {a : Prop} (h : a := by (with_reducible repeat (first | apply Kd.N_alloc | apply Kd.N_drewN | apply Kd.N_drew)); exact (Kd.N_mono (Kd.N_far (p := ⟨gb117, 2, none⟩) (Kd.N_far (p := ⟨gb117, 1, none⟩) (Kd.N_far (p := ⟨gb117, 0, none⟩) (Kd.N_mono HO114.out (fun k_ hk => (⟨hk, hk.2⟩ : _ ∧ k_ ≠ gb117))) (fun _ hk => hk.2) (.int .i64 t104)) (fun _ hk => hk.2) (.int .i64 t105)) (fun _ hk => hk.2) (.slice Ao45 t106.length co45)) (fun _ h_ => h_.1))) : a := h
theorem qqV {a : Prop} (h : a := by (with_reducible repeat (first | apply Kd.N_alloc | apply Kd.N_drewN | apply Kd.N_drew)); exact (Kd.N_mono (Kd.N_far (p := ⟨gb109, 2, none⟩) (Kd.N_far (p := ⟨gb109, 1, none⟩) (Kd.N_far (p := ⟨gb109, 0, none⟩) (Kd.N_mono HO108.out (fun k_ hk => (⟨hk, hk.2⟩ : _ ∧ k_ ≠ gb109))) (fun _ hk => hk.2) (.int .i64 t104)) (fun _ hk => hk.2) (.int .i64 t105)) (fun _ hk => hk.2) (.slice Ao45 t106.length co45)) (fun _ h_ => h_.1))) : a := h
theorem qqW {a : Prop} (h : a := by (with_reducible repeat (first | apply Kd.N_alloc | apply Kd.N_drewN | apply Kd.N_drew)); exact (Kd.N_mono (Kd.N_far (p := ⟨gb109, 2, none⟩) (Kd.N_far (p := ⟨gb109, 1, none⟩) (Kd.N_far (p := ⟨gb109, 0, none⟩) (Kd.N_mono HO108.out (fun k_ hk => (⟨hk, hk.2⟩ : _ ∧ k_ ≠ gb109))) (fun _ hk => hk.2) (.int .i64 t104)) (fun _ hk => hk.2) (.int .i64 t105)) (fun _ hk => hk.2) (.slice Ao34 t106.length co34)) (fun _ h_ => h_.1))) : a := h
theorem qqX {a : Prop} (h : a := by (with_reducible repeat (first | apply Kd.N_alloc | apply Kd.N_drewN | apply Kd.N_drew)); exact (Kd.N_mono (Kd.N_far (p := ⟨gb109, 2, none⟩) (Kd.N_far (p := ⟨gb109, 1, none⟩) (Kd.N_far (p := ⟨gb109, 0, none⟩) (Kd.N_mono HO108.out (fun k_ hk => (⟨hk, hk.2⟩ : _ ∧ k_ ≠ gb109))) (fun _ hk => hk.2) (.int .i64 t104)) (fun _ hk => hk.2) (.int .i64 t105)) (fun _ hk => hk.2) (.slice Ao21 t106.length co21)) (fun _ h_ => h_.1))) : a := h
theorem qqY {a : Prop} (h : a := by (with_reducible repeat (first | apply Kd.N_alloc | apply Kd.N_drewN | apply Kd.N_drew)); exact (Kd.N_mono (Kd.N_far (p := ⟨gb108, 2, none⟩) (Kd.N_far (p := ⟨gb108, 1, none⟩) (Kd.N_far (p := ⟨gb108, 0, none⟩) (Kd.N_mono HO107.out (fun k_ hk => (⟨hk, hk.2⟩ : _ ∧ k_ ≠ gb108))) (fun _ hk => hk.2) (.int .i64 t103)) (fun _ hk => hk.2) (.int .i64 t104)) (fun _ hk => hk.2) (.slice Ao27 t105.length co27)) (fun _ h_ => h_.1))) : a := h
theorem qqZ {a : Prop} (h : a := by (with_reducible repeat (first | apply Kd.N_alloc | apply Kd.N_drewN | apply Kd.N_drew)); exact (Kd.N_mono (Kd.N_far (p := ⟨gb108, 2, none⟩) (Kd.N_far (p := ⟨gb108, 1, none⟩) (Kd.N_far (p := ⟨gb108, 0, none⟩) (Kd.N_mono HO107.out (fun k_ hk => (⟨hk, hk.2⟩ : _ ∧ k_ ≠ gb108))) (fun _ hk => hk.2) (.int .i64 t103)) (fun _ hk => hk.2) (.int .i64 t104)) (fun _ hk => hk.2) (.slice Ao17 t105.length co17)) (fun _ h_ => h_.1))) : a := h
theorem qq10 {a : Prop} (h : a := by (with_reducible repeat (first | apply Kd.N_alloc | apply Kd.N_drewN | apply Kd.N_drew)); exact (Kd.N_mono (Kd.N_far (p := ⟨gb113, 2, none⟩) (Kd.N_far (p := ⟨gb113, 1, none⟩) (Kd.N_far (p := ⟨gb113, 0, none⟩) (Kd.N_mono HO112.out (fun k_ hk => (⟨hk, hk.2⟩ : _ ∧ k_ ≠ gb113))) (fun _ hk => hk.2) (.int .i64 0)) (fun _ hk => hk.2) (.int .i64 96)) (fun _ hk => hk.2) (.slice Ao34 y110.length co34)) (fun _ h_ => h_.1))) : a := h
theorem qq11 {a : Prop} (h : a := by unfold Func.isWrapper; first | (rw [if_pos (by decide +kernel)]; kernel_rfl) | (rw [if_neg (by decide +kernel)]; exact ⟨rfl, rfl⟩)) : a := h
theorem qq12 {a : Prop} (h : a := by have := HJ1.out; have := HJ8.out; have := HJ16.out; first | omega | exact Nat.le_refl _) : a := h
theorem qq13 {a : Prop} (h : a := by first | rfl | (simp [errW_none, errW_some] <;> rfl) | (simp only [← hji41]; first | rfl | (simp [errW_none, errW_some] <;> rfl)) | (simp [*, errW_none, errW_some] <;> rfl)) : a := h
theorem qq14 {a : Prop} (h : a := by (try simp only [List.map_toArray, List.map_cons, List.map_nil]); first | done | (simp only [hji41]; rfl) | rfl | (simp only [List.length_drop, List.length_take]; rfl)) : a := h
theorem qq15 {a : Prop} (h : a := by dsimp only; omega) : a := h
theorem qq16 {a : Prop} (h : a := by exact (qS1 GE102 HB.out)) : a := h
theorem qq17 {a : Prop} (h : a := by rw [hg]; exact (below_size (qS3 GE101 GE102 GE109 HB.out))) : a := h
theorem qq18 {a : Prop} (h : a := by have := HK1.out; omega) : a := h
theorem qq19 {a : Prop} (h : a := by exact (Reps.one (show Kd.M (Kd.int .u8) _ _ _ (((rd y107 x33_1) / 256) % 256) [.int .u8 (((rd y107 x33_1) / 256) % 256)] from rfl) (Reps.one (show Kd.M (Kd.int .u8) _ _ _ ((rd y107 x33_1) % 256) [.int .u8 ((rd y107 x33_1) % 256)] from rfl) (Reps.none _ _)))) : a := h
theorem qq1a {a : Prop} (h : a := by exact (Reps.one (show Kd.M (Kd.int .u8) _ _ _ a2 [.int .u8 a2] from rfl) (Reps.none _ _))) : a := h
theorem qq1b {a : Prop} (h : a := by exact (Kd.N_reads' HO108.out).2.1) : a := h
theorem qq1c {a : Prop} (h : a := by (try simp only [List.map_toArray, List.map_cons, List.map_nil]); first | done | (rw [show y147.length = y110.length from (Kd.N_reads' HO112.out).1.symm] <;> rfl) | rfl | (simp only [List.length_drop, List.length_take]; rfl)) : a := h
theorem qq1d {a : Prop} (h : a := by (with_reducible repeat (first | apply Kd.N_alloc | apply Kd.N_drewN | apply Kd.N_drew)); exact Kd.N_mono HO_109002.out (fun _ hk => ⟨hk.1.2, ⟨hk.2, ⟨hk.1.1.1.1, ⟨hk.1.1.1.2, hk.1.1.2⟩⟩⟩⟩)) : a := h
theorem qq1e {a : Prop} (h : a := by (with_reducible repeat (first | apply Kd.N_alloc | apply Kd.N_drewN | apply Kd.N_drew)); exact Kd.N_mono HO_109002.out (fun _ hk => ⟨hk.1.1.2, ⟨hk.1.2, ⟨hk.1.1.1.1, ⟨hk.1.1.1.2, hk.2⟩⟩⟩⟩)) : a := h
theorem qq1f {a : Prop} (h : a := by (with_reducible repeat (first | apply Kd.N_alloc | apply Kd.N_drewN | apply Kd.N_drew)); exact Kd.N_mono HO_106002.out (fun _ hk => ⟨⟨hk.1, ⟨hk.2.2.1, ⟨hk.2.2.2.1, hk.2.2.2.2⟩⟩⟩, hk.2.1⟩)) : a := h
theorem qq1g {a : Prop} (h : a := by (with_reducible repeat (first | apply Kd.N_alloc | apply Kd.N_drewN | apply Kd.N_drew)); exact Kd.N_mono HO118.out (fun _ hk => ⟨hk.1.2.1, ⟨hk.1.1, ⟨hk.1.2.2.1, ⟨hk.1.2.2.2, hk.2⟩⟩⟩⟩)) : a := h
theorem qq1h {a : Prop} (h : a := by first | rfl | (simp [errW_none, errW_some] <;> rfl) | (simp only [← hji33]; first | rfl | (simp [errW_none, errW_some] <;> rfl)) | (simp [*, errW_none, errW_some] <;> rfl)) : a := h
theorem qq1i {a : Prop} (h : a := by rw [List.length_append, List.length_singleton]; omega) : a := h
theorem qq1j {a : Prop} (h : a := by have h_ : ((ji12) : Int) < ((y134.length : Int) : Int) := of_decide_eq_true qq4; first | exact h_ | (have e_ := (Kd.N_reads' HO136b.out).1; omega) | simpa using h_) : a := h
theorem qq1k {a : Prop} (h : a := by have h_ : ((ji12) : Int) < ((y134.length : Int) : Int) := of_decide_eq_true qq4; first | exact h_ | (have e_ := (Kd.N_reads' HO136.out).1; omega) | simpa using h_) : a := h
theorem qq1l {a : Prop} (h : a := by (with_reducible repeat (first | apply Kd.N_alloc | apply Kd.N_drewN | apply Kd.N_drew)); exact Kd.N_mono HO108.out (fun _ hk => ⟨hk.1.1.1, ⟨hk.1.1.2, hk.1.2⟩⟩)) : a := h
theorem qq1m {a : Prop} (h : a := by have := HK1.out; first | omega | exact Nat.le_refl _) : a := h
theorem qq1n {a : Prop} (h : a := by go_simp; rfl) : a := h
theorem qq1o {a : Prop} (h : a := by rw [hg]; exact Nat.ne_of_lt (blk_lt (bq BK113.out))) : a := h
theorem qq1p {a : Prop} (h : a := by rw [hg]; exact Nat.ne_of_lt (blk_lt (bq BK109.out))) : a := h
theorem qq1q {a : Prop} (h : a := by rw [hg]; exact Nat.ne_of_gt (blk_lt (bq BK113.out))) : a := h
theorem qq1r {a : Prop} (h : a := by rw [hg]; exact Nat.ne_of_gt (blk_lt (bq BK109.out))) : a := h
theorem qq1s {a : Prop} (h : a := by (with_reducible repeat (first | apply Kd.R_alloc | apply Kd.R_drewN | apply Kd.R_drew)); exact Kd.R_mono HO106.out (fun _ hk => ⟨hk.2, hk.1.2⟩)) : a := h
theorem qq1t {a : Prop} (h : a := by show w.heap.size + 1 + 1 ≠ w.heap.size; omega) : a := h
theorem qq1u {a : Prop} (h : a := by first | exact Kd.R_nil _ _ _ _ _ | exact Kd.N_nil _ _ _ _ _ | exact Kd.V_nil _ _ _ _ _ | exact Kd.Q_nil _ _ _ _ _ | exact Kd.S_nil _ _ _ _ _) : a := h
theorem qq1v {a : Prop} (h : a := by (with_reducible repeat (first | apply Kd.R_alloc | apply Kd.R_drewN | apply Kd.R_drew)); exact Kd.R_mono HO116.out (fun _ hk => trivial)) : a := h
theorem qq1w {a : Prop} (h : a := by exact (Reps.one (show Kd.M (Kd.int .u8) _ _ _ ((128 + (Int.tmod a2 128)) % 256) [.int .u8 ((128 + (Int.tmod a2 128)) % 256)] from rfl) (Reps.none _ _))) : a := h
theorem qq1x {a : Prop} (h : a := by show w.heap.size + 1 ≠ w.heap.size; omega) : a := h
theorem qq1y {a : Prop} (h : a := by exact (Reps.one (show Kd.M (Kd.int .u8) _ _ _ ((17 + (Int.tmod a2 239)) % 256) [.int .u8 ((17 + (Int.tmod a2 239)) % 256)] from rfl) (Reps.none _ _))) : a := h
theorem qq1z {a : Prop} (h : a := by exact (Reps.one (show Kd.M (Kd.int .u8) _ _ _ ((2 + (Int.tmod a2 254)) % 256) [.int .u8 ((2 + (Int.tmod a2 254)) % 256)] from rfl) (Reps.none _ _))) : a := h
theorem qq1A {a : Prop} (h : a := by rw [List.length_append]; simp only [List.length_cons]; omega) : a := h
theorem qq1B {a : Prop} (h : a := by rw [Ny103.out]; simp) : a := h
theorem qq1C {a : Prop} (h : a := by exact (below_size (qS3 GE101 GE108 GE113 HB.out))) : a := h
theorem qq1D {a : Prop} (h : a := by have := HJ1.out; have := HJ8.out; have := HJ16.out; have := HJ20.out; first | omega | exact Nat.le_refl _) : a := h
theorem qq1E {a : Prop} (h : a := by have := HJ1.out; first | omega | exact Nat.le_refl _) : a := h
theorem qq1F {a : Prop} (h : a := by first | exact q115 | exact of_decide_eq_true qq4 | (have e_ := (Kd.N_reads' HO_110002.out).1; omega)) : a := h
end Go.Proofs.YtdmnknhlibaaoaaW.PrintWords
