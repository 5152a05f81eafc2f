/- Printed by a program of this session (wip/tools), out of the translation: functions with the same answers as the Go code, and the contracts of the code. Lean checks it. -/
import Derived.Test.YtendmmagjjhfnaaM0
namespace Go.Proofs.Ytendmmagjjhfnaa.M
open Go.RowKit Go.Proofs.YtendmmagjjhfnaaW.PrintWords Go.Proofs.YtendmmagjjhfnaaW.PrintLast Go.Proofs.YtendmmagjjhfnaaW.PrintMore
attribute [local go_sem] max2_int min2_int max_two min_two max_three min_three max_four min_four   -- for this text's walks alone
set_option linter.unusedVariables false
set_option linter.unusedSimpArgs false

/-! ### partitalaw10_Turn_turn: function 22 -/
mutual
def partitalaw10_Turn_turn.j0 : Nat → Int → Bool → Int → Int → Int → Bool → Int → Bool → Bool → Bool → Bool → Int → Option (Bool × Int × List Int × Bool × Bool × Bool × Bool × Int)
  | 0, _, _, _, _, _, _, _, _, _, _, _, _ => none
  | k + 1, x7, x8, x188000, x188001, x188002, x190000, x190001, x190003, x190004, x190005, x190006, x190007 => if x8 = true then (some (true, x190001, ([] : List Int), x190003, x190004, x190005, x190006, x190007)) else (if x7 = 2 then (partitalaw10_Turn_turn.j1 k x7 (x7 == 2) x188000 x188001 x188002 x190000 x190001 x190003 x190004 x190005 x190006 x190007) else (partitalaw10_Turn_turn.j1 k x7 (x7 == 3) x188000 x188001 x188002 x190000 x190001 x190003 x190004 x190005 x190006 x190007))
def partitalaw10_Turn_turn.j1 : Nat → Int → Bool → Int → Int → Int → Bool → Int → Bool → Bool → Bool → Bool → Int → Option (Bool × Int × List Int × Bool × Bool × Bool × Bool × Int)
  | 0, _, _, _, _, _, _, _, _, _, _, _, _ => none
  | k + 1, x7, x12, x188000, x188001, x188002, x190000, x190001, x190003, x190004, x190005, x190006, x190007 => if x12 = true then (some (x190000, wrap64 (2 + (wrap64 (Int.tmod x188001 3))), ([] : List Int), x190003, x190004, x190005, x190006, x190007)) else (if x7 = 4 then (some (x190000, wrap64 (2 + (wrap64 (Int.tmod x188002 2))), (([wrap64 (1 + (wrap64 (Int.tmod x188001 3)))] : List Int)), x190003, x190004, x190005, x190006, x190007)) else (if x7 = 5 then (some (x190000, x190001, (([wrap64 (1 + (wrap64 (Int.tmod x188001 3)))] : List Int)), x190003, x190004, x190005, x190006, x190007)) else (if x7 = 6 then (some (x190000, 3, (([1, wrap64 (2 + (wrap64 (Int.tmod x188001 2)))] : List Int)), x190003, x190004, x190005, x190006, x190007)) else (if x7 = 7 then (some (x190000, x190001, ([] : List Int), x190003, x190004, x190005, true, x190007)) else (if x7 = 8 then (some (x190000, x190001, ([] : List Int), x190003, x190004, true, x190006, x190007)) else (if x7 = 9 then (some (true, wrap64 (2 + (wrap64 (Int.tmod x188001 8))), ([] : List Int), x190003, x190004, x190005, x190006, x190007)) else (some (x190000, x190001, ([] : List Int), x190003, x190004, x190005, x190006, x190007))))))))
end
def partitalaw10_Turn_turn.f (k : Nat) (a0_0 : Int) (a0_1 : Int) (a0_2 : Int) : Option (Bool × Int × List Int × Bool × Bool × Bool × Bool × Int) := if (Int.tmod a0_0 16) = 0 then (partitalaw10_Turn_turn.j0 k (Int.tmod a0_0 16) ((Int.tmod a0_0 16) == 0) a0_0 a0_1 a0_2 false 0 false false false false 0) else (partitalaw10_Turn_turn.j0 k (Int.tmod a0_0 16) ((Int.tmod a0_0 16) == 1) a0_0 a0_1 a0_2 false 0 false false false false 0)
theorem partitalaw10_Turn_turn.mono_l : ∀ k, (∀ y0 y1 y2 y3 y4 y5 y6 y7 y8 y9 y10 y11, LeO (partitalaw10_Turn_turn.j0 k y0 y1 y2 y3 y4 y5 y6 y7 y8 y9 y10 y11) (partitalaw10_Turn_turn.j0 (k + 1) y0 y1 y2 y3 y4 y5 y6 y7 y8 y9 y10 y11)) ∧ (∀ y0 y1 y2 y3 y4 y5 y6 y7 y8 y9 y10 y11, LeO (partitalaw10_Turn_turn.j1 k y0 y1 y2 y3 y4 y5 y6 y7 y8 y9 y10 y11) (partitalaw10_Turn_turn.j1 (k + 1) y0 y1 y2 y3 y4 y5 y6 y7 y8 y9 y10 y11))
  | 0 => ⟨fun _ _ _ _ _ _ _ _ _ _ _ _ r h => by simp [partitalaw10_Turn_turn.j0] at h, fun _ _ _ _ _ _ _ _ _ _ _ _ r h => by simp [partitalaw10_Turn_turn.j1] at h⟩
  | k + 1 => by
    obtain ⟨ih0, ih1⟩ := partitalaw10_Turn_turn.mono_l k
    refine ⟨?_, ?_⟩
    · intro y0 y1 y2 y3 y4 y5 y6 y7 y8 y9 y10 y11
      unfold partitalaw10_Turn_turn.j0
      repeat' first
      | (with_reducible exact ih0 _ _ _ _ _ _ _ _ _ _ _ _)
      | (with_reducible exact ih1 _ _ _ _ _ _ _ _ _ _ _ _)
      | (with_reducible exact LeO.refl _)
      | (with_reducible exact LeO.none _)
      | (with_reducible refine LeO.ite ?_ ?_)
      | (with_reducible refine LeO.bind ?_ (fun _ => ?_))
      | exact ih0 _ _ _ _ _ _ _ _ _ _ _ _
      | exact ih1 _ _ _ _ _ _ _ _ _ _ _ _
      | exact LeO.none _
      | refine LeO.ite ?_ ?_
      | refine LeO.bind ?_ (fun _ => ?_)
    · intro y0 y1 y2 y3 y4 y5 y6 y7 y8 y9 y10 y11
      unfold partitalaw10_Turn_turn.j1
      repeat' first
      | (with_reducible exact ih0 _ _ _ _ _ _ _ _ _ _ _ _)
      | (with_reducible exact ih1 _ _ _ _ _ _ _ _ _ _ _ _)
      | (with_reducible exact LeO.refl _)
      | (with_reducible exact LeO.none _)
      | (with_reducible refine LeO.ite ?_ ?_)
      | (with_reducible refine LeO.bind ?_ (fun _ => ?_))
      | exact ih0 _ _ _ _ _ _ _ _ _ _ _ _
      | exact ih1 _ _ _ _ _ _ _ _ _ _ _ _
      | exact LeO.none _
      | refine LeO.ite ?_ ?_
      | refine LeO.bind ?_ (fun _ => ?_)
theorem partitalaw10_Turn_turn.mono : ∀ a0 a1 a2 k, LeO (partitalaw10_Turn_turn.f k a0 a1 a2) (partitalaw10_Turn_turn.f (k + 1) a0 a1 a2) := by
  intro a0 a1 a2 k
  obtain ⟨ih0, ih1⟩ := partitalaw10_Turn_turn.mono_l k
  unfold partitalaw10_Turn_turn.f
  repeat' first
      | (with_reducible exact ih0 _ _ _ _ _ _ _ _ _ _ _ _)
      | (with_reducible exact ih1 _ _ _ _ _ _ _ _ _ _ _ _)
      | (with_reducible exact LeO.refl _)
      | (with_reducible exact LeO.none _)
      | (with_reducible refine LeO.ite ?_ ?_)
      | (with_reducible refine LeO.bind ?_ (fun _ => ?_))
      | exact ih0 _ _ _ _ _ _ _ _ _ _ _ _
      | exact ih1 _ _ _ _ _ _ _ _ _ _ _ _
      | exact LeO.none _
      | refine LeO.ite ?_ ?_
      | refine LeO.bind ?_ (fun _ => ?_)
set_option maxHeartbeats 8000000 in
set_option maxRecDepth 100000 in
theorem partitalaw10_Turn_turn.calls (k : Nat) (a0_0 : Int) (a0_1 : Int) (a0_2 : Int) (r1 : Bool) (r2 : Int) (r3 : List Int) (r4 : Bool) (r5 : Bool) (r6 : Bool) (r7 : Bool) (r8 : Int) (w : World) (h : partitalaw10_Turn_turn.f k a0_0 a0_1 a0_2 = some (r1, r2, r3, r4, r5, r6, r7, r8)) :
    Calls Try.prog 22 #[.agg #[.int .u8 a0_0, .int .u8 a0_1, .int .u8 a0_2]] w fun e w' => ∃ v2_ : Value, e = .returned (.agg #[.bool r1, .int .i64 r2, v2_, .bool r4, .bool r5, .bool r6, .bool r7, .int .i64 r8]) ∧ Kd.R (Kd.int .i64) 3 w' w.heap.size (fun _ => True) v2_ r3 ∧ Below w.heap.size w w' := by
  have hu46 := Try.underlying46
  have hu38 := Try.underlying38
  have HB := Aside0.mk (Below.refl w.heap.size w)
  have H : (if (Int.tmod a0_0 16) = 0 then (partitalaw10_Turn_turn.j0 k (Int.tmod a0_0 16) ((Int.tmod a0_0 16) == 0) a0_0 a0_1 a0_2 false 0 false false false false 0) else (partitalaw10_Turn_turn.j0 k (Int.tmod a0_0 16) ((Int.tmod a0_0 16) == 1) a0_0 a0_1 a0_2 false 0 false false false false 0)) = some (r1, r2, r3, r4, r5, r6, r7, r8) := h
  clear h
  have HC2 := Aside0.mk H
  clear H
  go_enter Try.func22, Try.ntmps22
  go_upto_if 8 with (first | ((with_reducible refine gate_dst (N := 1) rfl ?_); refine box_event ?hg (N := 1) ?hd (cs := #[.int .u8 a0_0, .int .u8 a0_1, .int .u8 a0_2]) (t := 46) ?hr ?_; (case hd => rfl); (case hg => rfl); (case hr => first | (go_simp; done) | (go_simp; rfl)); intro gb187 hg w3 hbox hb; have n0_ := Aside0.mk (below_step (by repeat (first | (with_reducible first | exact HB.out | apply below_alloc | apply pw_below_drewN | apply below_drew1) | exact HB.out)) hb); have n1_ := Aside0.mk (hbox); have n2_ := Aside0.mk ((by rw [hg]; exact (below_size (by repeat (first | (with_reducible first | exact HB.out | apply below_alloc | apply pw_below_drewN | apply below_drew1) | exact HB.out))) : w.heap.size ≤ gb187)); have n3_ := Aside0.mk ((by rw [hg]; exact (below_size (by repeat (first | (with_reducible first | exact HB.out | apply below_alloc | apply pw_below_drewN | apply below_drew1) | exact HB.out))) : w.heap.size ≤ gb187)); clear HB; have HB := n0_; have BK187 := n1_; have GW187 := n2_; have GE187 := n3_; clear n0_ n1_ n2_ n3_; clear hb hbox hg) | ((with_reducible refine gate_dst (N := 2) rfl ?_); refine box_event ?hg (N := 2) ?hd (cs := #[.bool false, .int .i64 0, .slice none 0 0, .bool false, .bool false, .bool false, .bool false, .int .i64 0]) (t := 38) ?hr ?_; (case hd => rfl); (case hg => rfl); (case hr => first | (go_simp; done) | (go_simp; rfl)); intro gb188 hg w4 hbox hb; have n0_ := Aside0.mk (blk_below (g := gb187) (o := .cells #[.int .u8 a0_0, .int .u8 a0_1, .int .u8 a0_2] 46 (0, 0)) (by (with_reducible repeat (first | refine blk_drewN ?_ _ | refine blk_drew ?_ | refine blk_alloc ?_ _)); exact BK187.out) hb); have n1_ := Aside0.mk (below_step (by repeat (first | (with_reducible first | exact HB.out | apply below_alloc | apply pw_below_drewN | apply below_drew1 | refine below_set ?_ GE187.out) | exact HB.out)) hb); have n2_ := Aside0.mk (hbox); have n3_ := Aside0.mk ((by rw [hg]; exact (below_size (by repeat (first | (with_reducible first | exact HB.out | apply below_alloc | apply pw_below_drewN | apply below_drew1 | refine below_set ?_ GE187.out) | exact HB.out))) : w.heap.size ≤ gb188)); have n4_ := Aside0.mk ((by rw [hg]; exact (below_size (by repeat (first | (with_reducible first | exact HB.out | apply below_alloc | apply pw_below_drewN | apply below_drew1 | refine below_set ?_ GE187.out) | exact HB.out))) : w.heap.size ≤ gb188)); have n5_ := Aside0.mk ((by rw [hg]; exact Nat.ne_of_lt (blk_lt (g := gb187) (o := .cells #[.int .u8 a0_0, .int .u8 a0_1, .int .u8 a0_2] 46 (0, 0)) (by (with_reducible repeat (first | refine blk_drewN ?_ _ | refine blk_drew ?_ | refine blk_alloc ?_ _)); exact BK187.out)) : gb187 ≠ gb188)); have n6_ := Aside0.mk ((by rw [hg]; exact Nat.ne_of_gt (blk_lt (g := gb187) (o := .cells #[.int .u8 a0_0, .int .u8 a0_1, .int .u8 a0_2] 46 (0, 0)) (by (with_reducible repeat (first | refine blk_drewN ?_ _ | refine blk_drew ?_ | refine blk_alloc ?_ _)); exact BK187.out)) : gb188 ≠ gb187)); clear BK187; clear HB; have BK187 := n0_; have HB := n1_; have BK188 := n2_; have GW188 := n3_; have GE188 := n4_; have NB187_188 := n5_; have NB188_187 := n6_; clear n0_ n1_ n2_ n3_ n4_ n5_ n6_; clear hb hbox hg) | ((with_reducible refine gate_dst (N := 3) rfl ?_); refine box_event ?hg (N := 3) ?hd (cs := #[.bool false, .int .i64 0, .slice none 0 0, .bool false, .bool false, .bool false, .bool false, .int .i64 0]) (t := 38) ?hr ?_; (case hd => rfl); (case hg => rfl); (case hr => first | (go_simp; done) | (go_simp; rfl)); intro gb189 hg w5 hbox hb; have n0_ := Aside0.mk (blk_below (g := gb187) (o := .cells #[.int .u8 a0_0, .int .u8 a0_1, .int .u8 a0_2] 46 (0, 0)) (by (with_reducible repeat (first | refine blk_drewN ?_ _ | refine blk_drew ?_ | refine blk_alloc ?_ _)); exact BK187.out) hb); have n1_ := Aside0.mk (blk_below (g := gb188) (o := .cells #[.bool false, .int .i64 0, .slice none 0 0, .bool false, .bool false, .bool false, .bool false, .int .i64 0] 38 (0, 0)) (by (with_reducible repeat (first | refine blk_drewN ?_ _ | refine blk_drew ?_ | refine blk_alloc ?_ _)); exact BK188.out) hb); have n2_ := Aside0.mk (below_step (by repeat (first | (with_reducible first | exact HB.out | apply below_alloc | apply pw_below_drewN | apply below_drew1 | refine below_set ?_ GE187.out | refine below_set ?_ GE188.out) | exact HB.out)) hb); have n3_ := Aside0.mk (hbox); have n4_ := Aside0.mk ((by rw [hg]; exact (below_size (by repeat (first | (with_reducible first | exact HB.out | apply below_alloc | apply pw_below_drewN | apply below_drew1 | refine below_set ?_ GE187.out | refine below_set ?_ GE188.out) | exact HB.out))) : w.heap.size ≤ gb189)); have n5_ := Aside0.mk ((by rw [hg]; exact (below_size (by repeat (first | (with_reducible first | exact HB.out | apply below_alloc | apply pw_below_drewN | apply below_drew1 | refine below_set ?_ GE187.out | refine below_set ?_ GE188.out) | exact HB.out))) : w.heap.size ≤ gb189)); have n6_ := Aside0.mk ((by rw [hg]; exact Nat.ne_of_lt (blk_lt (g := gb187) (o := .cells #[.int .u8 a0_0, .int .u8 a0_1, .int .u8 a0_2] 46 (0, 0)) (by (with_reducible repeat (first | refine blk_drewN ?_ _ | refine blk_drew ?_ | refine blk_alloc ?_ _)); exact BK187.out)) : gb187 ≠ gb189)); have n7_ := Aside0.mk ((by rw [hg]; exact Nat.ne_of_gt (blk_lt (g := gb187) (o := .cells #[.int .u8 a0_0, .int .u8 a0_1, .int .u8 a0_2] 46 (0, 0)) (by (with_reducible repeat (first | refine blk_drewN ?_ _ | refine blk_drew ?_ | refine blk_alloc ?_ _)); exact BK187.out)) : gb189 ≠ gb187)); have n8_ := Aside0.mk ((by rw [hg]; exact Nat.ne_of_lt (blk_lt (g := gb188) (o := .cells #[.bool false, .int .i64 0, .slice none 0 0, .bool false, .bool false, .bool false, .bool false, .int .i64 0] 38 (0, 0)) (by (with_reducible repeat (first | refine blk_drewN ?_ _ | refine blk_drew ?_ | refine blk_alloc ?_ _)); exact BK188.out)) : gb188 ≠ gb189)); have n9_ := Aside0.mk ((by rw [hg]; exact Nat.ne_of_gt (blk_lt (g := gb188) (o := .cells #[.bool false, .int .i64 0, .slice none 0 0, .bool false, .bool false, .bool false, .bool false, .int .i64 0] 38 (0, 0)) (by (with_reducible repeat (first | refine blk_drewN ?_ _ | refine blk_drew ?_ | refine blk_alloc ?_ _)); exact BK188.out)) : gb189 ≠ gb188)); clear BK187; clear BK188; clear HB; have BK187 := n0_; have BK188 := n1_; have HB := n2_; have BK189 := n3_; have GW189 := n4_; have GE189 := n5_; have NB187_189 := n6_; have NB189_187 := n7_; have NB188_189 := n8_; have NB189_188 := n9_; clear n0_ n1_ n2_ n3_ n4_ n5_ n6_ n7_ n8_ n9_; clear hb hbox hg; have hnb6 := NB189_187.out; have hnc6 := NB187_189.out; have hnb7 := NB189_188.out; have hnc7 := NB188_189.out; have hcz8_0 : w5.cell? ⟨gb189, 0, none⟩ = some (.bool false) := (blk_cell BK189.out 0).trans rfl; have hcz8_1 : w5.cell? ⟨gb189, 1, none⟩ = some (.int .i64 0) := (blk_cell BK189.out 1).trans rfl; have hcz8_2 : w5.cell? ⟨gb189, 2, none⟩ = some (.slice none 0 0) := (blk_cell BK189.out 2).trans rfl; have hcz8_3 : w5.cell? ⟨gb189, 3, none⟩ = some (.bool false) := (blk_cell BK189.out 3).trans rfl; have hcz8_4 : w5.cell? ⟨gb189, 4, none⟩ = some (.bool false) := (blk_cell BK189.out 4).trans rfl; have hcz8_5 : w5.cell? ⟨gb189, 5, none⟩ = some (.bool false) := (blk_cell BK189.out 5).trans rfl; have hcz8_6 : w5.cell? ⟨gb189, 6, none⟩ = some (.bool false) := (blk_cell BK189.out 6).trans rfl; have hcz8_7 : w5.cell? ⟨gb189, 7, none⟩ = some (.int .i64 0) := (blk_cell BK189.out 7).trans rfl; have hfz8_0 := blk_frozen BK189.out 0; have hfz8_1 := blk_frozen BK189.out 1; have hfz8_2 := blk_frozen BK189.out 2; have hfz8_3 := blk_frozen BK189.out 3; have hfz8_4 := blk_frozen BK189.out 4; have hfz8_5 := blk_frozen BK189.out 5; have hfz8_6 := blk_frozen BK189.out 6; have hfz8_7 := blk_frozen BK189.out 7; have hnb9 := NB187_188.out; have hnc9 := NB188_187.out; have hcz10_0 : w5.cell? ⟨gb187, 0, none⟩ = some (.int .u8 a0_0) := (blk_cell BK187.out 0).trans rfl; have hcz10_1 : w5.cell? ⟨gb187, 1, none⟩ = some (.int .u8 a0_1) := (blk_cell BK187.out 1).trans rfl; have hcz10_2 : w5.cell? ⟨gb187, 2, none⟩ = some (.int .u8 a0_2) := (blk_cell BK187.out 2).trans rfl; have hfz10_0 := blk_frozen BK187.out 0; have hfz10_1 := blk_frozen BK187.out 1; have hfz10_2 := blk_frozen BK187.out 2))
  (try simp only [Act.put, List.setIfInBounds_toArray, List.set_cons_zero, List.set_cons_succ])
  go_cut [8] (fun v8 wc => ∃ (kq : Nat) (x8_1 : Bool), v8 = .bool x8_1 ∧ Aside0 (partitalaw10_Turn_turn.j0 kq (Int.tmod a0_0 16) x8_1 a0_0 a0_1 a0_2 false 0 false false false false 0 = some (r1, r2, r3, r4, r5, r6, r7, r8)) ∧ Aside0 (kq ≤ k) ∧ Aside0 (wc.heap[gb187]? = some (.cells #[.int .u8 a0_0, .int .u8 a0_1, .int .u8 a0_2] 46 (0, 0))) ∧ Aside0 (wc.heap[gb188]? = some (.cells #[.bool false, .int .i64 0, (.slice none 0 0), .bool false, .bool false, .bool false, .bool false, .int .i64 0] 38 (0, 0))) ∧ Aside0 (wc.heap[gb189]? = some (.cells #[.bool false, .int .i64 0, (.slice none 0 0), .bool false, .bool false, .bool false, .bool false, .int .i64 0] 38 (0, 0))) ∧ Aside0 (Below w.heap.size w wc))
  case first =>
    have H := HC2.out
    clear HC2
    by_cases c11 : (Int.tmod a0_0 16) = 0
    · rw [if_pos c11] at H
      have c11b0 : ((Int.tmod a0_0 16) == 0) = true := beq_iff_eq.mpr c11
      have c11b1 : ((Int.tmod a0_0 16) != 0) = false := bne_eq_false_iff_eq.mpr c11
      clear c11
      (first | rw [c11b0] | (simp only [i64_w, i32_w]; rw [c11b0]) | skip)
      have H' := Aside0.mk H
      clear H
      go_wp2
      go_meet
      case rel => exact ⟨_, (((Int.tmod a0_0 16) == 0)), (by first | rfl | (simp; done) | (simp [*]; done)), H', ⟨by first | omega | exact Nat.le_refl _⟩, ⟨by (with_reducible repeat (first | refine blk_drewN ?_ _ | refine blk_drew ?_ | refine blk_alloc ?_ _)); refine blk_far ?_ NB187_189.out _; (with_reducible repeat (first | refine blk_drewN ?_ _ | refine blk_drew ?_ | refine blk_alloc ?_ _)); refine blk_far ?_ NB187_189.out _; (with_reducible repeat (first | refine blk_drewN ?_ _ | refine blk_drew ?_ | refine blk_alloc ?_ _)); refine blk_far ?_ NB187_189.out _; (with_reducible repeat (first | refine blk_drewN ?_ _ | refine blk_drew ?_ | refine blk_alloc ?_ _)); refine blk_far ?_ NB187_189.out _; (with_reducible repeat (first | refine blk_drewN ?_ _ | refine blk_drew ?_ | refine blk_alloc ?_ _)); refine blk_far ?_ NB187_189.out _; (with_reducible repeat (first | refine blk_drewN ?_ _ | refine blk_drew ?_ | refine blk_alloc ?_ _)); refine blk_far ?_ NB187_189.out _; (with_reducible repeat (first | refine blk_drewN ?_ _ | refine blk_drew ?_ | refine blk_alloc ?_ _)); refine blk_far ?_ NB187_189.out _; (with_reducible repeat (first | refine blk_drewN ?_ _ | refine blk_drew ?_ | refine blk_alloc ?_ _)); refine blk_far ?_ NB187_189.out _; (with_reducible repeat (first | refine blk_drewN ?_ _ | refine blk_drew ?_ | refine blk_alloc ?_ _)); exact BK187.out⟩, ⟨by (with_reducible repeat (first | refine blk_drewN ?_ _ | refine blk_drew ?_ | refine blk_alloc ?_ _)); refine blk_far ?_ NB188_189.out _; (with_reducible repeat (first | refine blk_drewN ?_ _ | refine blk_drew ?_ | refine blk_alloc ?_ _)); refine blk_far ?_ NB188_189.out _; (with_reducible repeat (first | refine blk_drewN ?_ _ | refine blk_drew ?_ | refine blk_alloc ?_ _)); refine blk_far ?_ NB188_189.out _; (with_reducible repeat (first | refine blk_drewN ?_ _ | refine blk_drew ?_ | refine blk_alloc ?_ _)); refine blk_far ?_ NB188_189.out _; (with_reducible repeat (first | refine blk_drewN ?_ _ | refine blk_drew ?_ | refine blk_alloc ?_ _)); refine blk_far ?_ NB188_189.out _; (with_reducible repeat (first | refine blk_drewN ?_ _ | refine blk_drew ?_ | refine blk_alloc ?_ _)); refine blk_far ?_ NB188_189.out _; (with_reducible repeat (first | refine blk_drewN ?_ _ | refine blk_drew ?_ | refine blk_alloc ?_ _)); refine blk_far ?_ NB188_189.out _; (with_reducible repeat (first | refine blk_drewN ?_ _ | refine blk_drew ?_ | refine blk_alloc ?_ _)); refine blk_far ?_ NB188_189.out _; (with_reducible repeat (first | refine blk_drewN ?_ _ | refine blk_drew ?_ | refine blk_alloc ?_ _)); exact BK188.out⟩, ⟨by (with_reducible repeat (first | refine blk_drewN ?_ _ | refine blk_drew ?_ | refine blk_alloc ?_ _)); refine blk_put (cs := #[.bool false, .int .i64 0, .slice none 0 0, .bool false, .bool false, .bool false, .bool false, .int .i64 0]) ?_ 7 _ rfl; (with_reducible repeat (first | refine blk_drewN ?_ _ | refine blk_drew ?_ | refine blk_alloc ?_ _)); refine blk_put (cs := #[.bool false, .int .i64 0, .slice none 0 0, .bool false, .bool false, .bool false, .bool false, .int .i64 0]) ?_ 6 _ rfl; (with_reducible repeat (first | refine blk_drewN ?_ _ | refine blk_drew ?_ | refine blk_alloc ?_ _)); refine blk_put (cs := #[.bool false, .int .i64 0, .slice none 0 0, .bool false, .bool false, .bool false, .bool false, .int .i64 0]) ?_ 5 _ rfl; (with_reducible repeat (first | refine blk_drewN ?_ _ | refine blk_drew ?_ | refine blk_alloc ?_ _)); refine blk_put (cs := #[.bool false, .int .i64 0, .slice none 0 0, .bool false, .bool false, .bool false, .bool false, .int .i64 0]) ?_ 4 _ rfl; (with_reducible repeat (first | refine blk_drewN ?_ _ | refine blk_drew ?_ | refine blk_alloc ?_ _)); refine blk_put (cs := #[.bool false, .int .i64 0, .slice none 0 0, .bool false, .bool false, .bool false, .bool false, .int .i64 0]) ?_ 3 _ rfl; (with_reducible repeat (first | refine blk_drewN ?_ _ | refine blk_drew ?_ | refine blk_alloc ?_ _)); refine blk_put (cs := #[.bool false, .int .i64 0, .slice none 0 0, .bool false, .bool false, .bool false, .bool false, .int .i64 0]) ?_ 2 _ rfl; (with_reducible repeat (first | refine blk_drewN ?_ _ | refine blk_drew ?_ | refine blk_alloc ?_ _)); refine blk_put (cs := #[.bool false, .int .i64 0, .slice none 0 0, .bool false, .bool false, .bool false, .bool false, .int .i64 0]) ?_ 1 _ rfl; (with_reducible repeat (first | refine blk_drewN ?_ _ | refine blk_drew ?_ | refine blk_alloc ?_ _)); refine blk_put (cs := #[.bool false, .int .i64 0, .slice none 0 0, .bool false, .bool false, .bool false, .bool false, .int .i64 0]) ?_ 0 _ rfl; (with_reducible repeat (first | refine blk_drewN ?_ _ | refine blk_drew ?_ | refine blk_alloc ?_ _)); exact BK189.out⟩, ⟨by repeat (first | (with_reducible first | exact HB.out | apply below_alloc | apply pw_below_drewN | apply below_drew1 | refine below_set ?_ GE187.out | refine below_set ?_ GE188.out | refine below_set ?_ GE189.out) | exact HB.out)⟩⟩
    · rw [if_neg c11] at H
      have c11b0 : ((Int.tmod a0_0 16) == 0) = false := beq_eq_false_iff_ne.mpr c11
      have c11b1 : ((Int.tmod a0_0 16) != 0) = true := bne_iff_ne.mpr c11
      (first | rw [c11b0] | (simp only [i64_w, i32_w]; rw [c11b0]) | skip)
      have H' := Aside0.mk H
      clear H
      go_wp2
      go_meet
      case rel => exact ⟨_, (((Int.tmod a0_0 16) == 1)), (by first | rfl | (simp; done) | (simp [*]; done)), H', ⟨by first | omega | exact Nat.le_refl _⟩, ⟨by (with_reducible repeat (first | refine blk_drewN ?_ _ | refine blk_drew ?_ | refine blk_alloc ?_ _)); refine blk_far ?_ NB187_189.out _; (with_reducible repeat (first | refine blk_drewN ?_ _ | refine blk_drew ?_ | refine blk_alloc ?_ _)); refine blk_far ?_ NB187_189.out _; (with_reducible repeat (first | refine blk_drewN ?_ _ | refine blk_drew ?_ | refine blk_alloc ?_ _)); refine blk_far ?_ NB187_189.out _; (with_reducible repeat (first | refine blk_drewN ?_ _ | refine blk_drew ?_ | refine blk_alloc ?_ _)); refine blk_far ?_ NB187_189.out _; (with_reducible repeat (first | refine blk_drewN ?_ _ | refine blk_drew ?_ | refine blk_alloc ?_ _)); refine blk_far ?_ NB187_189.out _; (with_reducible repeat (first | refine blk_drewN ?_ _ | refine blk_drew ?_ | refine blk_alloc ?_ _)); refine blk_far ?_ NB187_189.out _; (with_reducible repeat (first | refine blk_drewN ?_ _ | refine blk_drew ?_ | refine blk_alloc ?_ _)); refine blk_far ?_ NB187_189.out _; (with_reducible repeat (first | refine blk_drewN ?_ _ | refine blk_drew ?_ | refine blk_alloc ?_ _)); refine blk_far ?_ NB187_189.out _; (with_reducible repeat (first | refine blk_drewN ?_ _ | refine blk_drew ?_ | refine blk_alloc ?_ _)); exact BK187.out⟩, ⟨by (with_reducible repeat (first | refine blk_drewN ?_ _ | refine blk_drew ?_ | refine blk_alloc ?_ _)); refine blk_far ?_ NB188_189.out _; (with_reducible repeat (first | refine blk_drewN ?_ _ | refine blk_drew ?_ | refine blk_alloc ?_ _)); refine blk_far ?_ NB188_189.out _; (with_reducible repeat (first | refine blk_drewN ?_ _ | refine blk_drew ?_ | refine blk_alloc ?_ _)); refine blk_far ?_ NB188_189.out _; (with_reducible repeat (first | refine blk_drewN ?_ _ | refine blk_drew ?_ | refine blk_alloc ?_ _)); refine blk_far ?_ NB188_189.out _; (with_reducible repeat (first | refine blk_drewN ?_ _ | refine blk_drew ?_ | refine blk_alloc ?_ _)); refine blk_far ?_ NB188_189.out _; (with_reducible repeat (first | refine blk_drewN ?_ _ | refine blk_drew ?_ | refine blk_alloc ?_ _)); refine blk_far ?_ NB188_189.out _; (with_reducible repeat (first | refine blk_drewN ?_ _ | refine blk_drew ?_ | refine blk_alloc ?_ _)); refine blk_far ?_ NB188_189.out _; (with_reducible repeat (first | refine blk_drewN ?_ _ | refine blk_drew ?_ | refine blk_alloc ?_ _)); refine blk_far ?_ NB188_189.out _; (with_reducible repeat (first | refine blk_drewN ?_ _ | refine blk_drew ?_ | refine blk_alloc ?_ _)); exact BK188.out⟩, ⟨by (with_reducible repeat (first | refine blk_drewN ?_ _ | refine blk_drew ?_ | refine blk_alloc ?_ _)); refine blk_put (cs := #[.bool false, .int .i64 0, .slice none 0 0, .bool false, .bool false, .bool false, .bool false, .int .i64 0]) ?_ 7 _ rfl; (with_reducible repeat (first | refine blk_drewN ?_ _ | refine blk_drew ?_ | refine blk_alloc ?_ _)); refine blk_put (cs := #[.bool false, .int .i64 0, .slice none 0 0, .bool false, .bool false, .bool false, .bool false, .int .i64 0]) ?_ 6 _ rfl; (with_reducible repeat (first | refine blk_drewN ?_ _ | refine blk_drew ?_ | refine blk_alloc ?_ _)); refine blk_put (cs := #[.bool false, .int .i64 0, .slice none 0 0, .bool false, .bool false, .bool false, .bool false, .int .i64 0]) ?_ 5 _ rfl; (with_reducible repeat (first | refine blk_drewN ?_ _ | refine blk_drew ?_ | refine blk_alloc ?_ _)); refine blk_put (cs := #[.bool false, .int .i64 0, .slice none 0 0, .bool false, .bool false, .bool false, .bool false, .int .i64 0]) ?_ 4 _ rfl; (with_reducible repeat (first | refine blk_drewN ?_ _ | refine blk_drew ?_ | refine blk_alloc ?_ _)); refine blk_put (cs := #[.bool false, .int .i64 0, .slice none 0 0, .bool false, .bool false, .bool false, .bool false, .int .i64 0]) ?_ 3 _ rfl; (with_reducible repeat (first | refine blk_drewN ?_ _ | refine blk_drew ?_ | refine blk_alloc ?_ _)); refine blk_put (cs := #[.bool false, .int .i64 0, .slice none 0 0, .bool false, .bool false, .bool false, .bool false, .int .i64 0]) ?_ 2 _ rfl; (with_reducible repeat (first | refine blk_drewN ?_ _ | refine blk_drew ?_ | refine blk_alloc ?_ _)); refine blk_put (cs := #[.bool false, .int .i64 0, .slice none 0 0, .bool false, .bool false, .bool false, .bool false, .int .i64 0]) ?_ 1 _ rfl; (with_reducible repeat (first | refine blk_drewN ?_ _ | refine blk_drew ?_ | refine blk_alloc ?_ _)); refine blk_put (cs := #[.bool false, .int .i64 0, .slice none 0 0, .bool false, .bool false, .bool false, .bool false, .int .i64 0]) ?_ 0 _ rfl; (with_reducible repeat (first | refine blk_drewN ?_ _ | refine blk_drew ?_ | refine blk_alloc ?_ _)); exact BK189.out⟩, ⟨by repeat (first | (with_reducible first | exact HB.out | apply below_alloc | apply pw_below_drewN | apply below_drew1 | refine below_set ?_ GE187.out | refine below_set ?_ GE188.out | refine below_set ?_ GE189.out) | exact HB.out)⟩⟩
  case rest =>
    clear HC2
    try clear c1
    try clear c2
    try clear p2
    try clear c6
    try clear c7
    try clear c9
    try clear c11
    try clear c11b0
    try clear c11b1
    try clear hcz10_0
    try clear hcz10_1
    try clear hcz10_2
    try clear hcz8_0
    try clear hcz8_1
    try clear hcz8_2
    try clear hcz8_3
    try clear hcz8_4
    try clear hcz8_5
    try clear hcz8_6
    try clear hcz8_7
    try clear hfz10_0
    try clear hfz10_1
    try clear hfz10_2
    try clear hfz8_0
    try clear hfz8_1
    try clear hfz8_2
    try clear hfz8_3
    try clear hfz8_4
    try clear hfz8_5
    try clear hfz8_6
    try clear hfz8_7
    obtain ⟨kq, x8_1, rfl, HA, HJ1, BK187, BK188, BK189, HB⟩ := hcut
    cases kq with
    | zero => exact absurd HA.out (by simp [partitalaw10_Turn_turn.j0])
    | succ kj1 =>
      have H := HA.out
      clear HA
      simp only [partitalaw10_Turn_turn.j0] at H
      by_cases c12 : x8_1 = true
      · subst c12
        have H1 : (some (true, 0, ([] : List Int), false, false, false, false, 0)) = some (r1, r2, r3, r4, r5, r6, r7, r8) := by rw [if_pos rfl] at H; exact H
        clear H
        have H := H1
        clear H1
        simp only [Option.some.injEq, Prod.mk.injEq] at H
        obtain ⟨rfl, rfl, rfl, rfl, rfl, rfl, rfl, rfl⟩ := H
        have hnb13 := NB189_187.out
        have hnc13 := NB187_189.out
        have hnb14 := NB189_188.out
        have hnc14 := NB188_189.out
        have hcz15_0 : wc.cell? ⟨gb189, 0, none⟩ = some (.bool false) := (blk_cell BK189.out 0).trans rfl
        have hcz15_1 : wc.cell? ⟨gb189, 1, none⟩ = some (.int .i64 0) := (blk_cell BK189.out 1).trans rfl
        have hcz15_2 : wc.cell? ⟨gb189, 2, none⟩ = some (.slice none 0 0) := (blk_cell BK189.out 2).trans rfl
        have hcz15_3 : wc.cell? ⟨gb189, 3, none⟩ = some (.bool false) := (blk_cell BK189.out 3).trans rfl
        have hcz15_4 : wc.cell? ⟨gb189, 4, none⟩ = some (.bool false) := (blk_cell BK189.out 4).trans rfl
        have hcz15_5 : wc.cell? ⟨gb189, 5, none⟩ = some (.bool false) := (blk_cell BK189.out 5).trans rfl
        have hcz15_6 : wc.cell? ⟨gb189, 6, none⟩ = some (.bool false) := (blk_cell BK189.out 6).trans rfl
        have hcz15_7 : wc.cell? ⟨gb189, 7, none⟩ = some (.int .i64 0) := (blk_cell BK189.out 7).trans rfl
        have hfz15_0 := blk_frozen BK189.out 0
        have hfz15_1 := blk_frozen BK189.out 1
        have hfz15_2 := blk_frozen BK189.out 2
        have hfz15_3 := blk_frozen BK189.out 3
        have hfz15_4 := blk_frozen BK189.out 4
        have hfz15_5 := blk_frozen BK189.out 5
        have hfz15_6 := blk_frozen BK189.out 6
        have hfz15_7 := blk_frozen BK189.out 7
        have hnb16 := NB188_187.out
        have hnc16 := NB187_188.out
        have hcz17_0 : wc.cell? ⟨gb188, 0, none⟩ = some (.bool false) := (blk_cell BK188.out 0).trans rfl
        have hcz17_1 : wc.cell? ⟨gb188, 1, none⟩ = some (.int .i64 0) := (blk_cell BK188.out 1).trans rfl
        have hcz17_2 : wc.cell? ⟨gb188, 2, none⟩ = some (.slice none 0 0) := (blk_cell BK188.out 2).trans rfl
        have hcz17_3 : wc.cell? ⟨gb188, 3, none⟩ = some (.bool false) := (blk_cell BK188.out 3).trans rfl
        have hcz17_4 : wc.cell? ⟨gb188, 4, none⟩ = some (.bool false) := (blk_cell BK188.out 4).trans rfl
        have hcz17_5 : wc.cell? ⟨gb188, 5, none⟩ = some (.bool false) := (blk_cell BK188.out 5).trans rfl
        have hcz17_6 : wc.cell? ⟨gb188, 6, none⟩ = some (.bool false) := (blk_cell BK188.out 6).trans rfl
        have hcz17_7 : wc.cell? ⟨gb188, 7, none⟩ = some (.int .i64 0) := (blk_cell BK188.out 7).trans rfl
        have hfz17_0 := blk_frozen BK188.out 0
        have hfz17_1 := blk_frozen BK188.out 1
        have hfz17_2 := blk_frozen BK188.out 2
        have hfz17_3 := blk_frozen BK188.out 3
        have hfz17_4 := blk_frozen BK188.out 4
        have hfz17_5 := blk_frozen BK188.out 5
        have hfz17_6 := blk_frozen BK188.out 6
        have hfz17_7 := blk_frozen BK188.out 7
        go_wp2
        refine bodyPost_ret (results_cell_row rfl _ _ gb188 38 #[.bool true, .int .i64 0, .slice none 0 0, .bool false, .bool false, .bool false, .bool false, .int .i64 0] (0, 0) _ rfl (by (with_reducible repeat (first | refine blk_drewN ?_ _ | refine blk_drew ?_ | refine blk_alloc ?_ _)); refine blk_put (cs := #[.bool true, .int .i64 0, .slice none 0 0, .bool false, .bool false, .bool false, .bool false, .int .i64 0]) ?_ 7 _ rfl; (with_reducible repeat (first | refine blk_drewN ?_ _ | refine blk_drew ?_ | refine blk_alloc ?_ _)); refine blk_put (cs := #[.bool true, .int .i64 0, .slice none 0 0, .bool false, .bool false, .bool false, .bool false, .int .i64 0]) ?_ 6 _ rfl; (with_reducible repeat (first | refine blk_drewN ?_ _ | refine blk_drew ?_ | refine blk_alloc ?_ _)); refine blk_put (cs := #[.bool true, .int .i64 0, .slice none 0 0, .bool false, .bool false, .bool false, .bool false, .int .i64 0]) ?_ 5 _ rfl; (with_reducible repeat (first | refine blk_drewN ?_ _ | refine blk_drew ?_ | refine blk_alloc ?_ _)); refine blk_put (cs := #[.bool true, .int .i64 0, .slice none 0 0, .bool false, .bool false, .bool false, .bool false, .int .i64 0]) ?_ 4 _ rfl; (with_reducible repeat (first | refine blk_drewN ?_ _ | refine blk_drew ?_ | refine blk_alloc ?_ _)); refine blk_put (cs := #[.bool true, .int .i64 0, .slice none 0 0, .bool false, .bool false, .bool false, .bool false, .int .i64 0]) ?_ 3 _ rfl; (with_reducible repeat (first | refine blk_drewN ?_ _ | refine blk_drew ?_ | refine blk_alloc ?_ _)); refine blk_put (cs := #[.bool true, .int .i64 0, .slice none 0 0, .bool false, .bool false, .bool false, .bool false, .int .i64 0]) ?_ 2 _ rfl; (with_reducible repeat (first | refine blk_drewN ?_ _ | refine blk_drew ?_ | refine blk_alloc ?_ _)); refine blk_put (cs := #[.bool true, .int .i64 0, .slice none 0 0, .bool false, .bool false, .bool false, .bool false, .int .i64 0]) ?_ 1 _ rfl; (with_reducible repeat (first | refine blk_drewN ?_ _ | refine blk_drew ?_ | refine blk_alloc ?_ _)); refine blk_put (cs := #[.bool false, .int .i64 0, .slice none 0 0, .bool false, .bool false, .bool false, .bool false, .int .i64 0]) ?_ 0 _ rfl; (with_reducible repeat (first | refine blk_drewN ?_ _ | refine blk_drew ?_ | refine blk_alloc ?_ _)); refine blk_far ?_ NB188_189.out _; (with_reducible repeat (first | refine blk_drewN ?_ _ | refine blk_drew ?_ | refine blk_alloc ?_ _)); exact BK188.out) Try.underlying38 rfl (by kernel_rfl)) rfl ?_
        exact ⟨_, by first | rfl | (simp [errW_none, errW_some] <;> rfl) | (simp [*, errW_none, errW_some] <;> rfl), by first | exact Kd.R_nil _ _ _ _ _ | exact Kd.N_nil _ _ _ _ _ | exact Kd.V_nil _ _ _ _ _ | exact Kd.Q_nil _ _ _ _ _ | exact Kd.S_nil _ _ _ _ _, by repeat (first | (with_reducible first | exact HB.out | apply below_alloc | apply pw_below_drewN | apply below_drew1 | refine below_set ?_ GE187.out | refine below_set ?_ GE188.out | refine below_set ?_ GE189.out) | exact HB.out)⟩
      · replace c12 := Bool.eq_false_iff.mpr c12
        subst c12
        have H1 : (if (Int.tmod a0_0 16) = 2 then (partitalaw10_Turn_turn.j1 kj1 (Int.tmod a0_0 16) ((Int.tmod a0_0 16) == 2) a0_0 a0_1 a0_2 false 0 false false false false 0) else (partitalaw10_Turn_turn.j1 kj1 (Int.tmod a0_0 16) ((Int.tmod a0_0 16) == 3) a0_0 a0_1 a0_2 false 0 false false false false 0)) = some (r1, r2, r3, r4, r5, r6, r7, r8) := by rw [if_neg (show ¬ (false = true) by decide)] at H; exact H
        clear H
        have H := H1
        clear H1
        have HC18 := Aside0.mk H
        clear H
        go_upto_if 12 with (fail)
        go_cut [12] (fun v12 wc => ∃ (kq : Nat) (x12_17 : Bool), v12 = .bool x12_17 ∧ Aside0 (partitalaw10_Turn_turn.j1 kq (Int.tmod a0_0 16) x12_17 a0_0 a0_1 a0_2 false 0 false false false false 0 = some (r1, r2, r3, r4, r5, r6, r7, r8)) ∧ Aside0 (kq ≤ kj1) ∧ Aside0 (wc.heap[gb187]? = some (.cells #[.int .u8 a0_0, .int .u8 a0_1, .int .u8 a0_2] 46 (0, 0))) ∧ Aside0 (wc.heap[gb188]? = some (.cells #[.bool false, .int .i64 0, (.slice none 0 0), .bool false, .bool false, .bool false, .bool false, .int .i64 0] 38 (0, 0))) ∧ Aside0 (wc.heap[gb189]? = some (.cells #[.bool false, .int .i64 0, (.slice none 0 0), .bool false, .bool false, .bool false, .bool false, .int .i64 0] 38 (0, 0))) ∧ Aside0 (Below w.heap.size w wc))
        case first =>
          have H := HC18.out
          clear HC18
          by_cases c19 : (Int.tmod a0_0 16) = 2
          · rw [if_pos c19] at H
            have c19b0 : ((Int.tmod a0_0 16) == 2) = true := beq_iff_eq.mpr c19
            have c19b1 : ((Int.tmod a0_0 16) != 2) = false := bne_eq_false_iff_eq.mpr c19
            clear c19
            (first | rw [c19b0] | (simp only [i64_w, i32_w]; rw [c19b0]) | skip)
            have H' := Aside0.mk H
            clear H
            go_wp2
            go_meet
            case rel => exact ⟨_, (((Int.tmod a0_0 16) == 2)), (by first | rfl | (simp; done) | (simp [*]; done)), H', ⟨by have := HJ1.out; first | omega | exact Nat.le_refl _⟩, ⟨by (with_reducible repeat (first | refine blk_drewN ?_ _ | refine blk_drew ?_ | refine blk_alloc ?_ _)); exact BK187.out⟩, ⟨by (with_reducible repeat (first | refine blk_drewN ?_ _ | refine blk_drew ?_ | refine blk_alloc ?_ _)); exact BK188.out⟩, ⟨by (with_reducible repeat (first | refine blk_drewN ?_ _ | refine blk_drew ?_ | refine blk_alloc ?_ _)); exact BK189.out⟩, ⟨by repeat (first | (with_reducible first | exact HB.out | apply below_alloc | apply pw_below_drewN | apply below_drew1 | refine below_set ?_ GE187.out | refine below_set ?_ GE188.out | refine below_set ?_ GE189.out) | exact HB.out)⟩⟩
          · rw [if_neg c19] at H
            have c19b0 : ((Int.tmod a0_0 16) == 2) = false := beq_eq_false_iff_ne.mpr c19
            have c19b1 : ((Int.tmod a0_0 16) != 2) = true := bne_iff_ne.mpr c19
            (first | rw [c19b0] | (simp only [i64_w, i32_w]; rw [c19b0]) | skip)
            have H' := Aside0.mk H
            clear H
            go_wp2
            go_meet
            case rel => exact ⟨_, (((Int.tmod a0_0 16) == 3)), (by first | rfl | (simp; done) | (simp [*]; done)), H', ⟨by have := HJ1.out; first | omega | exact Nat.le_refl _⟩, ⟨by (with_reducible repeat (first | refine blk_drewN ?_ _ | refine blk_drew ?_ | refine blk_alloc ?_ _)); exact BK187.out⟩, ⟨by (with_reducible repeat (first | refine blk_drewN ?_ _ | refine blk_drew ?_ | refine blk_alloc ?_ _)); exact BK188.out⟩, ⟨by (with_reducible repeat (first | refine blk_drewN ?_ _ | refine blk_drew ?_ | refine blk_alloc ?_ _)); exact BK189.out⟩, ⟨by repeat (first | (with_reducible first | exact HB.out | apply below_alloc | apply pw_below_drewN | apply below_drew1 | refine below_set ?_ GE187.out | refine below_set ?_ GE188.out | refine below_set ?_ GE189.out) | exact HB.out)⟩⟩
        case rest =>
          clear HC18
          try clear c1
          try clear c2
          try clear p2
          try clear c6
          try clear c7
          try clear c9
          try clear c11
          try clear c11b0
          try clear c11b1
          try clear c12
          try clear c13
          try clear c14
          try clear c16
          try clear c19
          try clear c19b0
          try clear c19b1
          try clear hcz10_0
          try clear hcz10_1
          try clear hcz10_2
          try clear hcz15_0
          try clear hcz15_1
          try clear hcz15_2
          try clear hcz15_3
          try clear hcz15_4
          try clear hcz15_5
          try clear hcz15_6
          try clear hcz15_7
          try clear hcz17_0
          try clear hcz17_1
          try clear hcz17_2
          try clear hcz17_3
          try clear hcz17_4
          try clear hcz17_5
          try clear hcz17_6
          try clear hcz17_7
          try clear hcz8_0
          try clear hcz8_1
          try clear hcz8_2
          try clear hcz8_3
          try clear hcz8_4
          try clear hcz8_5
          try clear hcz8_6
          try clear hcz8_7
          try clear hfz10_0
          try clear hfz10_1
          try clear hfz10_2
          try clear hfz15_0
          try clear hfz15_1
          try clear hfz15_2
          try clear hfz15_3
          try clear hfz15_4
          try clear hfz15_5
          try clear hfz15_6
          try clear hfz15_7
          try clear hfz17_0
          try clear hfz17_1
          try clear hfz17_2
          try clear hfz17_3
          try clear hfz17_4
          try clear hfz17_5
          try clear hfz17_6
          try clear hfz17_7
          try clear hfz8_0
          try clear hfz8_1
          try clear hfz8_2
          try clear hfz8_3
          try clear hfz8_4
          try clear hfz8_5
          try clear hfz8_6
          try clear hfz8_7
          try clear p2
          obtain ⟨kq, x12_17, rfl, HA, HJ17, BK187, BK188, BK189, HB⟩ := hcut
          cases kq with
          | zero => exact absurd HA.out (by simp [partitalaw10_Turn_turn.j1])
          | succ kj17 =>
            have H := HA.out
            clear HA
            simp only [partitalaw10_Turn_turn.j1] at H
            by_cases c20 : x12_17 = true
            · subst c20
              have H1 : (some (false, wrap64 (2 + (wrap64 (Int.tmod a0_1 3))), ([] : List Int), false, false, false, false, 0)) = some (r1, r2, r3, r4, r5, r6, r7, r8) := by rw [if_pos rfl] at H; exact H
              clear H
              have H := H1
              clear H1
              simp only [Option.some.injEq, Prod.mk.injEq] at H
              obtain ⟨rfl, rfl, rfl, rfl, rfl, rfl, rfl, rfl⟩ := H
              have hnb21 := NB187_188.out
              have hnc21 := NB188_187.out
              have hnb22 := NB187_189.out
              have hnc22 := NB189_187.out
              have hcz23_0 : wc.cell? ⟨gb187, 0, none⟩ = some (.int .u8 a0_0) := (blk_cell BK187.out 0).trans rfl
              have hcz23_1 : wc.cell? ⟨gb187, 1, none⟩ = some (.int .u8 a0_1) := (blk_cell BK187.out 1).trans rfl
              have hcz23_2 : wc.cell? ⟨gb187, 2, none⟩ = some (.int .u8 a0_2) := (blk_cell BK187.out 2).trans rfl
              have hfz23_0 := blk_frozen BK187.out 0
              have hfz23_1 := blk_frozen BK187.out 1
              have hfz23_2 := blk_frozen BK187.out 2
              have hnb24 := NB189_188.out
              have hnc24 := NB188_189.out
              have hcz25_0 : wc.cell? ⟨gb189, 0, none⟩ = some (.bool false) := (blk_cell BK189.out 0).trans rfl
              have hcz25_1 : wc.cell? ⟨gb189, 1, none⟩ = some (.int .i64 0) := (blk_cell BK189.out 1).trans rfl
              have hcz25_2 : wc.cell? ⟨gb189, 2, none⟩ = some (.slice none 0 0) := (blk_cell BK189.out 2).trans rfl
              have hcz25_3 : wc.cell? ⟨gb189, 3, none⟩ = some (.bool false) := (blk_cell BK189.out 3).trans rfl
              have hcz25_4 : wc.cell? ⟨gb189, 4, none⟩ = some (.bool false) := (blk_cell BK189.out 4).trans rfl
              have hcz25_5 : wc.cell? ⟨gb189, 5, none⟩ = some (.bool false) := (blk_cell BK189.out 5).trans rfl
              have hcz25_6 : wc.cell? ⟨gb189, 6, none⟩ = some (.bool false) := (blk_cell BK189.out 6).trans rfl
              have hcz25_7 : wc.cell? ⟨gb189, 7, none⟩ = some (.int .i64 0) := (blk_cell BK189.out 7).trans rfl
              have hfz25_0 := blk_frozen BK189.out 0
              have hfz25_1 := blk_frozen BK189.out 1
              have hfz25_2 := blk_frozen BK189.out 2
              have hfz25_3 := blk_frozen BK189.out 3
              have hfz25_4 := blk_frozen BK189.out 4
              have hfz25_5 := blk_frozen BK189.out 5
              have hfz25_6 := blk_frozen BK189.out 6
              have hfz25_7 := blk_frozen BK189.out 7
              have hcz26_0 : wc.cell? ⟨gb188, 0, none⟩ = some (.bool false) := (blk_cell BK188.out 0).trans rfl
              have hcz26_1 : wc.cell? ⟨gb188, 1, none⟩ = some (.int .i64 0) := (blk_cell BK188.out 1).trans rfl
              have hcz26_2 : wc.cell? ⟨gb188, 2, none⟩ = some (.slice none 0 0) := (blk_cell BK188.out 2).trans rfl
              have hcz26_3 : wc.cell? ⟨gb188, 3, none⟩ = some (.bool false) := (blk_cell BK188.out 3).trans rfl
              have hcz26_4 : wc.cell? ⟨gb188, 4, none⟩ = some (.bool false) := (blk_cell BK188.out 4).trans rfl
              have hcz26_5 : wc.cell? ⟨gb188, 5, none⟩ = some (.bool false) := (blk_cell BK188.out 5).trans rfl
              have hcz26_6 : wc.cell? ⟨gb188, 6, none⟩ = some (.bool false) := (blk_cell BK188.out 6).trans rfl
              have hcz26_7 : wc.cell? ⟨gb188, 7, none⟩ = some (.int .i64 0) := (blk_cell BK188.out 7).trans rfl
              have hfz26_0 := blk_frozen BK188.out 0
              have hfz26_1 := blk_frozen BK188.out 1
              have hfz26_2 := blk_frozen BK188.out 2
              have hfz26_3 := blk_frozen BK188.out 3
              have hfz26_4 := blk_frozen BK188.out 4
              have hfz26_5 := blk_frozen BK188.out 5
              have hfz26_6 := blk_frozen BK188.out 6
              have hfz26_7 := blk_frozen BK188.out 7
              go_wp2
              refine bodyPost_ret (results_cell_row rfl _ _ gb188 38 #[.bool false, .int .i64 (wrap64 (2 + (wrap64 (Int.tmod a0_1 3)))), .slice none 0 0, .bool false, .bool false, .bool false, .bool false, .int .i64 0] (0, 0) _ rfl (by (with_reducible repeat (first | refine blk_drewN ?_ _ | refine blk_drew ?_ | refine blk_alloc ?_ _)); refine blk_put (cs := #[.bool false, .int .i64 (wrap64 (2 + (wrap64 (Int.tmod a0_1 3)))), .slice none 0 0, .bool false, .bool false, .bool false, .bool false, .int .i64 0]) ?_ 7 _ rfl; (with_reducible repeat (first | refine blk_drewN ?_ _ | refine blk_drew ?_ | refine blk_alloc ?_ _)); refine blk_put (cs := #[.bool false, .int .i64 (wrap64 (2 + (wrap64 (Int.tmod a0_1 3)))), .slice none 0 0, .bool false, .bool false, .bool false, .bool false, .int .i64 0]) ?_ 6 _ rfl; (with_reducible repeat (first | refine blk_drewN ?_ _ | refine blk_drew ?_ | refine blk_alloc ?_ _)); refine blk_put (cs := #[.bool false, .int .i64 (wrap64 (2 + (wrap64 (Int.tmod a0_1 3)))), .slice none 0 0, .bool false, .bool false, .bool false, .bool false, .int .i64 0]) ?_ 5 _ rfl; (with_reducible repeat (first | refine blk_drewN ?_ _ | refine blk_drew ?_ | refine blk_alloc ?_ _)); refine blk_put (cs := #[.bool false, .int .i64 (wrap64 (2 + (wrap64 (Int.tmod a0_1 3)))), .slice none 0 0, .bool false, .bool false, .bool false, .bool false, .int .i64 0]) ?_ 4 _ rfl; (with_reducible repeat (first | refine blk_drewN ?_ _ | refine blk_drew ?_ | refine blk_alloc ?_ _)); refine blk_put (cs := #[.bool false, .int .i64 (wrap64 (2 + (wrap64 (Int.tmod a0_1 3)))), .slice none 0 0, .bool false, .bool false, .bool false, .bool false, .int .i64 0]) ?_ 3 _ rfl; (with_reducible repeat (first | refine blk_drewN ?_ _ | refine blk_drew ?_ | refine blk_alloc ?_ _)); refine blk_put (cs := #[.bool false, .int .i64 (wrap64 (2 + (wrap64 (Int.tmod a0_1 3)))), .slice none 0 0, .bool false, .bool false, .bool false, .bool false, .int .i64 0]) ?_ 2 _ rfl; (with_reducible repeat (first | refine blk_drewN ?_ _ | refine blk_drew ?_ | refine blk_alloc ?_ _)); refine blk_put (cs := #[.bool false, .int .i64 0, .slice none 0 0, .bool false, .bool false, .bool false, .bool false, .int .i64 0]) ?_ 1 _ rfl; (with_reducible repeat (first | refine blk_drewN ?_ _ | refine blk_drew ?_ | refine blk_alloc ?_ _)); refine blk_put (cs := #[.bool false, .int .i64 0, .slice none 0 0, .bool false, .bool false, .bool false, .bool false, .int .i64 0]) ?_ 0 _ rfl; (with_reducible repeat (first | refine blk_drewN ?_ _ | refine blk_drew ?_ | refine blk_alloc ?_ _)); refine blk_far ?_ NB188_189.out _; (with_reducible repeat (first | refine blk_drewN ?_ _ | refine blk_drew ?_ | refine blk_alloc ?_ _)); exact BK188.out) Try.underlying38 rfl (by kernel_rfl)) rfl ?_
              exact ⟨_, by first | rfl | (simp [errW_none, errW_some] <;> rfl) | (simp [*, errW_none, errW_some] <;> rfl), by first | exact Kd.R_nil _ _ _ _ _ | exact Kd.N_nil _ _ _ _ _ | exact Kd.V_nil _ _ _ _ _ | exact Kd.Q_nil _ _ _ _ _ | exact Kd.S_nil _ _ _ _ _, by repeat (first | (with_reducible first | exact HB.out | apply below_alloc | apply pw_below_drewN | apply below_drew1 | refine below_set ?_ GE187.out | refine below_set ?_ GE188.out | refine below_set ?_ GE189.out) | exact HB.out)⟩
            · replace c20 := Bool.eq_false_iff.mpr c20
              subst c20
              have H1 : (if (Int.tmod a0_0 16) = 4 then (some (false, wrap64 (2 + (wrap64 (Int.tmod a0_2 2))), (([wrap64 (1 + (wrap64 (Int.tmod a0_1 3)))] : List Int)), false, false, false, false, 0)) else (if (Int.tmod a0_0 16) = 5 then (some (false, 0, (([wrap64 (1 + (wrap64 (Int.tmod a0_1 3)))] : List Int)), false, false, false, false, 0)) else (if (Int.tmod a0_0 16) = 6 then (some (false, 3, (([1, wrap64 (2 + (wrap64 (Int.tmod a0_1 2)))] : List Int)), false, false, false, false, 0)) else (if (Int.tmod a0_0 16) = 7 then (some (false, 0, ([] : List Int), false, false, false, true, 0)) else (if (Int.tmod a0_0 16) = 8 then (some (false, 0, ([] : List Int), false, false, true, false, 0)) else (if (Int.tmod a0_0 16) = 9 then (some (true, wrap64 (2 + (wrap64 (Int.tmod a0_1 8))), ([] : List Int), false, false, false, false, 0)) else (some (false, 0, ([] : List Int), false, false, false, false, 0)))))))) = some (r1, r2, r3, r4, r5, r6, r7, r8) := by rw [if_neg (show ¬ (false = true) by decide)] at H; exact H
              clear H
              have H := H1
              clear H1
              by_cases c27 : (Int.tmod a0_0 16) = 4
              · rw [if_pos c27] at H
                have c27b0 : ((Int.tmod a0_0 16) == 4) = true := beq_iff_eq.mpr c27
                have c27b1 : ((Int.tmod a0_0 16) != 4) = false := bne_eq_false_iff_eq.mpr c27
                clear c27
                obtain ⟨y190, hy190⟩ : ∃ y_ : List Int, y_ = (([wrap64 (1 + (wrap64 (Int.tmod a0_1 3)))] : List Int)) := ⟨_, rfl⟩
                replace H : (some (false, wrap64 (2 + (wrap64 (Int.tmod a0_2 2))), y190, false, false, false, false, 0)) = some (r1, r2, r3, r4, r5, r6, r7, r8) := by first | (rw [hy190]; with_reducible exact H) | (have H2_ := (Option.bind_some _ _).symm.trans H; rw [hy190]; with_reducible exact H2_) | (have H2_ := (Option.bind_some _ _).symm.trans H; with_reducible exact H2_) | with_reducible exact H | (rw [hy190]; exact H) | exact H
                have Ny190 := Aside0.mk hy190
                clear hy190
                simp only [Option.some.injEq, Prod.mk.injEq] at H
                obtain ⟨rfl, rfl, rfl, rfl, rfl, rfl, rfl, rfl⟩ := H
                have hnb28 := NB187_188.out
                have hnc28 := NB188_187.out
                have hnb29 := NB187_189.out
                have hnc29 := NB189_187.out
                have hcz30_0 : wc.cell? ⟨gb187, 0, none⟩ = some (.int .u8 a0_0) := (blk_cell BK187.out 0).trans rfl
                have hcz30_1 : wc.cell? ⟨gb187, 1, none⟩ = some (.int .u8 a0_1) := (blk_cell BK187.out 1).trans rfl
                have hcz30_2 : wc.cell? ⟨gb187, 2, none⟩ = some (.int .u8 a0_2) := (blk_cell BK187.out 2).trans rfl
                have hfz30_0 := blk_frozen BK187.out 0
                have hfz30_1 := blk_frozen BK187.out 1
                have hfz30_2 := blk_frozen BK187.out 2
                go_wp2_with (first | ((with_reducible refine gate_dst (N := 28) rfl ?_); refine Kd.R_lit (Kd.int .i64) _ 3 ?hg (N := 28) ?hd (xs := ([wrap64 (1 + (wrap64 (Int.tmod a0_1 3)))] : List Int)) (inner := [.int .i64 (wrap64 (1 + (wrap64 (Int.tmod a0_1 3))))]) (ok := fun _ => True) (okp := fun _ => True) ?hr ?hp (fun _ hk => hk) trivial (Below.refl _ _) (Nat.le_refl _) (by simp) ?_; (case hd => rfl); (case hg => rfl); (case hr => first | (go_simp; done) | (go_simp; rfl)); (case hp => exact (Reps.one (show Kd.M (Kd.int .i64) _ _ _ (wrap64 (1 + (wrap64 (Int.tmod a0_1 3)))) [.int .i64 (wrap64 (1 + (wrap64 (Int.tmod a0_1 3))))] from rfl) (Reps.none _ _))); intro v191 w31 ho32 hb hg_ hnew_; clear hg_ hnew_; (first | rw [← Ny190.out] at ho32 | (simp only [Int.reduceToNat] at ho32; rw [← Ny190.out] at ho32)); have n0_ := Aside0.mk (Kd.R_lower ho32 (below_size (by repeat (first | (with_reducible first | exact HB.out | apply below_alloc | apply pw_below_drewN | apply below_drew1 | refine below_set ?_ GE187.out | refine below_set ?_ GE188.out | refine below_set ?_ GE189.out) | exact HB.out)))); have n1_ := Aside0.mk (blk_below (g := gb187) (o := .cells #[.int .u8 a0_0, .int .u8 a0_1, .int .u8 a0_2] 46 (0, 0)) (by (with_reducible repeat (first | refine blk_drewN ?_ _ | refine blk_drew ?_ | refine blk_alloc ?_ _)); exact BK187.out) hb); have n2_ := Aside0.mk (blk_below (g := gb188) (o := .cells #[.bool false, .int .i64 0, .slice none 0 0, .bool false, .bool false, .bool false, .bool false, .int .i64 0] 38 (0, 0)) (by (with_reducible repeat (first | refine blk_drewN ?_ _ | refine blk_drew ?_ | refine blk_alloc ?_ _)); exact BK188.out) hb); have n3_ := Aside0.mk (blk_below (g := gb189) (o := .cells #[.bool false, .int .i64 0, .slice none 0 0, .bool false, .bool false, .bool false, .bool false, .int .i64 0] 38 (0, 0)) (by (with_reducible repeat (first | refine blk_drewN ?_ _ | refine blk_drew ?_ | refine blk_alloc ?_ _)); exact BK189.out) hb); have n4_ := Aside0.mk (below_step (by repeat (first | (with_reducible first | exact HB.out | apply below_alloc | apply pw_below_drewN | apply below_drew1 | refine below_set ?_ GE187.out | refine below_set ?_ GE188.out | refine below_set ?_ GE189.out) | exact HB.out)) hb); clear BK187; clear BK188; clear BK189; clear HB; have HO192 := n0_; have BK187 := n1_; have BK188 := n2_; have BK189 := n3_; have HB := n4_; clear n0_ n1_ n2_ n3_ n4_; clear hb ho32; obtain ⟨Ao33, co33, eo33⟩ := Kd.R_slice HO192.out; subst eo33; have hnb34 := NB189_188.out; have hnc34 := NB188_189.out; have hcz35_0 : w31.cell? ⟨gb189, 0, none⟩ = some (.bool false) := (blk_cell BK189.out 0).trans rfl; have hcz35_1 : w31.cell? ⟨gb189, 1, none⟩ = some (.int .i64 0) := (blk_cell BK189.out 1).trans rfl; have hcz35_2 : w31.cell? ⟨gb189, 2, none⟩ = some (.slice none 0 0) := (blk_cell BK189.out 2).trans rfl; have hcz35_3 : w31.cell? ⟨gb189, 3, none⟩ = some (.bool false) := (blk_cell BK189.out 3).trans rfl; have hcz35_4 : w31.cell? ⟨gb189, 4, none⟩ = some (.bool false) := (blk_cell BK189.out 4).trans rfl; have hcz35_5 : w31.cell? ⟨gb189, 5, none⟩ = some (.bool false) := (blk_cell BK189.out 5).trans rfl; have hcz35_6 : w31.cell? ⟨gb189, 6, none⟩ = some (.bool false) := (blk_cell BK189.out 6).trans rfl; have hcz35_7 : w31.cell? ⟨gb189, 7, none⟩ = some (.int .i64 0) := (blk_cell BK189.out 7).trans rfl; have hfz35_0 := blk_frozen BK189.out 0; have hfz35_1 := blk_frozen BK189.out 1; have hfz35_2 := blk_frozen BK189.out 2; have hfz35_3 := blk_frozen BK189.out 3; have hfz35_4 := blk_frozen BK189.out 4; have hfz35_5 := blk_frozen BK189.out 5; have hfz35_6 := blk_frozen BK189.out 6; have hfz35_7 := blk_frozen BK189.out 7; have hcz36_0 : w31.cell? ⟨gb187, 0, none⟩ = some (.int .u8 a0_0) := (blk_cell BK187.out 0).trans rfl; have hcz36_1 : w31.cell? ⟨gb187, 1, none⟩ = some (.int .u8 a0_1) := (blk_cell BK187.out 1).trans rfl; have hcz36_2 : w31.cell? ⟨gb187, 2, none⟩ = some (.int .u8 a0_2) := (blk_cell BK187.out 2).trans rfl; have hfz36_0 := blk_frozen BK187.out 0; have hfz36_1 := blk_frozen BK187.out 1; have hfz36_2 := blk_frozen BK187.out 2; have hcz37_0 : w31.cell? ⟨gb188, 0, none⟩ = some (.bool false) := (blk_cell BK188.out 0).trans rfl; have hcz37_1 : w31.cell? ⟨gb188, 1, none⟩ = some (.int .i64 0) := (blk_cell BK188.out 1).trans rfl; have hcz37_2 : w31.cell? ⟨gb188, 2, none⟩ = some (.slice none 0 0) := (blk_cell BK188.out 2).trans rfl; have hcz37_3 : w31.cell? ⟨gb188, 3, none⟩ = some (.bool false) := (blk_cell BK188.out 3).trans rfl; have hcz37_4 : w31.cell? ⟨gb188, 4, none⟩ = some (.bool false) := (blk_cell BK188.out 4).trans rfl; have hcz37_5 : w31.cell? ⟨gb188, 5, none⟩ = some (.bool false) := (blk_cell BK188.out 5).trans rfl; have hcz37_6 : w31.cell? ⟨gb188, 6, none⟩ = some (.bool false) := (blk_cell BK188.out 6).trans rfl; have hcz37_7 : w31.cell? ⟨gb188, 7, none⟩ = some (.int .i64 0) := (blk_cell BK188.out 7).trans rfl; have hfz37_0 := blk_frozen BK188.out 0; have hfz37_1 := blk_frozen BK188.out 1; have hfz37_2 := blk_frozen BK188.out 2; have hfz37_3 := blk_frozen BK188.out 3; have hfz37_4 := blk_frozen BK188.out 4; have hfz37_5 := blk_frozen BK188.out 5; have hfz37_6 := blk_frozen BK188.out 6; have hfz37_7 := blk_frozen BK188.out 7))
                refine bodyPost_ret (results_cell_row rfl _ _ gb188 38 #[.bool false, .int .i64 (wrap64 (2 + (wrap64 (Int.tmod a0_2 2)))), .slice Ao33 y190.length co33, .bool false, .bool false, .bool false, .bool false, .int .i64 0] (0, 0) _ rfl (by (with_reducible repeat (first | refine blk_drewN ?_ _ | refine blk_drew ?_ | refine blk_alloc ?_ _)); refine blk_put (cs := #[.bool false, .int .i64 (wrap64 (2 + (wrap64 (Int.tmod a0_2 2)))), .slice Ao33 y190.length co33, .bool false, .bool false, .bool false, .bool false, .int .i64 0]) ?_ 7 _ rfl; (with_reducible repeat (first | refine blk_drewN ?_ _ | refine blk_drew ?_ | refine blk_alloc ?_ _)); refine blk_put (cs := #[.bool false, .int .i64 (wrap64 (2 + (wrap64 (Int.tmod a0_2 2)))), .slice Ao33 y190.length co33, .bool false, .bool false, .bool false, .bool false, .int .i64 0]) ?_ 6 _ rfl; (with_reducible repeat (first | refine blk_drewN ?_ _ | refine blk_drew ?_ | refine blk_alloc ?_ _)); refine blk_put (cs := #[.bool false, .int .i64 (wrap64 (2 + (wrap64 (Int.tmod a0_2 2)))), .slice Ao33 y190.length co33, .bool false, .bool false, .bool false, .bool false, .int .i64 0]) ?_ 5 _ rfl; (with_reducible repeat (first | refine blk_drewN ?_ _ | refine blk_drew ?_ | refine blk_alloc ?_ _)); refine blk_put (cs := #[.bool false, .int .i64 (wrap64 (2 + (wrap64 (Int.tmod a0_2 2)))), .slice Ao33 y190.length co33, .bool false, .bool false, .bool false, .bool false, .int .i64 0]) ?_ 4 _ rfl; (with_reducible repeat (first | refine blk_drewN ?_ _ | refine blk_drew ?_ | refine blk_alloc ?_ _)); refine blk_put (cs := #[.bool false, .int .i64 (wrap64 (2 + (wrap64 (Int.tmod a0_2 2)))), .slice Ao33 y190.length co33, .bool false, .bool false, .bool false, .bool false, .int .i64 0]) ?_ 3 _ rfl; (with_reducible repeat (first | refine blk_drewN ?_ _ | refine blk_drew ?_ | refine blk_alloc ?_ _)); refine blk_put (cs := #[.bool false, .int .i64 (wrap64 (2 + (wrap64 (Int.tmod a0_2 2)))), .slice none 0 0, .bool false, .bool false, .bool false, .bool false, .int .i64 0]) ?_ 2 _ rfl; (with_reducible repeat (first | refine blk_drewN ?_ _ | refine blk_drew ?_ | refine blk_alloc ?_ _)); refine blk_put (cs := #[.bool false, .int .i64 0, .slice none 0 0, .bool false, .bool false, .bool false, .bool false, .int .i64 0]) ?_ 1 _ rfl; (with_reducible repeat (first | refine blk_drewN ?_ _ | refine blk_drew ?_ | refine blk_alloc ?_ _)); refine blk_put (cs := #[.bool false, .int .i64 0, .slice none 0 0, .bool false, .bool false, .bool false, .bool false, .int .i64 0]) ?_ 0 _ rfl; (with_reducible repeat (first | refine blk_drewN ?_ _ | refine blk_drew ?_ | refine blk_alloc ?_ _)); refine blk_far ?_ NB188_189.out _; (with_reducible repeat (first | refine blk_drewN ?_ _ | refine blk_drew ?_ | refine blk_alloc ?_ _)); refine blk_far ?_ NB188_189.out _; (with_reducible repeat (first | refine blk_drewN ?_ _ | refine blk_drew ?_ | refine blk_alloc ?_ _)); exact BK188.out) Try.underlying38 rfl (by kernel_rfl)) rfl ?_
                exact ⟨_, by first | rfl | (simp [errW_none, errW_some] <;> rfl) | (simp [*, errW_none, errW_some] <;> rfl), by (with_reducible repeat (first | apply Kd.R_alloc | apply Kd.R_drewN | apply Kd.R_drew)); exact Kd.R_mono (Kd.R_far (p := ⟨gb188, 7, none⟩) (Kd.R_far (p := ⟨gb188, 6, none⟩) (Kd.R_far (p := ⟨gb188, 5, none⟩) (Kd.R_far (p := ⟨gb188, 4, none⟩) (Kd.R_far (p := ⟨gb188, 3, none⟩) (Kd.R_far (p := ⟨gb188, 2, none⟩) (Kd.R_far (p := ⟨gb188, 1, none⟩) (Kd.R_far (p := ⟨gb188, 0, none⟩) (Kd.R_far (p := ⟨gb189, 1, none⟩) (Kd.R_far (p := ⟨gb189, 2, none⟩) (Kd.R_types (Kd.R_types HO192.out BK189.out (by decide)) BK188.out (by decide)) (fun _ hk => hk.1.2) (.slice Ao33 y190.length co33)) (fun _ hk => hk.1.2) (.int .i64 (wrap64 (2 + (wrap64 (Int.tmod a0_2 2)))))) (fun _ hk => hk.2) (.bool false)) (fun _ hk => hk.2) (.int .i64 (wrap64 (2 + (wrap64 (Int.tmod a0_2 2)))))) (fun _ hk => hk.2) (.slice Ao33 y190.length co33)) (fun _ hk => hk.2) (.bool false)) (fun _ hk => hk.2) (.bool false)) (fun _ hk => hk.2) (.bool false)) (fun _ hk => hk.2) (.bool false)) (fun _ hk => hk.2) (.int .i64 0)) (fun _ hk => trivial), by repeat (first | (with_reducible first | exact HB.out | apply below_alloc | apply pw_below_drewN | apply below_drew1 | refine below_set ?_ GE187.out | refine below_set ?_ GE188.out | refine below_set ?_ GE189.out) | exact HB.out)⟩
              · rw [if_neg c27] at H
                have c27b0 : ((Int.tmod a0_0 16) == 4) = false := beq_eq_false_iff_ne.mpr c27
                have c27b1 : ((Int.tmod a0_0 16) != 4) = true := bne_iff_ne.mpr c27
                by_cases c38 : (Int.tmod a0_0 16) = 5
                · rw [if_pos c38] at H
                  have c38b0 : ((Int.tmod a0_0 16) == 5) = true := beq_iff_eq.mpr c38
                  have c38b1 : ((Int.tmod a0_0 16) != 5) = false := bne_eq_false_iff_eq.mpr c38
                  clear c38
                  obtain ⟨y193, hy193⟩ : ∃ y_ : List Int, y_ = (([wrap64 (1 + (wrap64 (Int.tmod a0_1 3)))] : List Int)) := ⟨_, rfl⟩
                  replace H : (some (false, 0, y193, false, false, false, false, 0)) = some (r1, r2, r3, r4, r5, r6, r7, r8) := by first | (rw [hy193]; with_reducible exact H) | (have H2_ := (Option.bind_some _ _).symm.trans H; rw [hy193]; with_reducible exact H2_) | (have H2_ := (Option.bind_some _ _).symm.trans H; with_reducible exact H2_) | with_reducible exact H | (rw [hy193]; exact H) | exact H
                  have Ny193 := Aside0.mk hy193
                  clear hy193
                  simp only [Option.some.injEq, Prod.mk.injEq] at H
                  obtain ⟨rfl, rfl, rfl, rfl, rfl, rfl, rfl, rfl⟩ := H
                  have hnb39 := NB187_188.out
                  have hnc39 := NB188_187.out
                  have hnb40 := NB187_189.out
                  have hnc40 := NB189_187.out
                  have hcz41_0 : wc.cell? ⟨gb187, 0, none⟩ = some (.int .u8 a0_0) := (blk_cell BK187.out 0).trans rfl
                  have hcz41_1 : wc.cell? ⟨gb187, 1, none⟩ = some (.int .u8 a0_1) := (blk_cell BK187.out 1).trans rfl
                  have hcz41_2 : wc.cell? ⟨gb187, 2, none⟩ = some (.int .u8 a0_2) := (blk_cell BK187.out 2).trans rfl
                  have hfz41_0 := blk_frozen BK187.out 0
                  have hfz41_1 := blk_frozen BK187.out 1
                  have hfz41_2 := blk_frozen BK187.out 2
                  go_wp2_with (first | ((with_reducible refine gate_dst (N := 43) rfl ?_); refine Kd.R_lit (Kd.int .i64) _ 3 ?hg (N := 43) ?hd (xs := ([wrap64 (1 + (wrap64 (Int.tmod a0_1 3)))] : List Int)) (inner := [.int .i64 (wrap64 (1 + (wrap64 (Int.tmod a0_1 3))))]) (ok := fun _ => True) (okp := fun _ => True) ?hr ?hp (fun _ hk => hk) trivial (Below.refl _ _) (Nat.le_refl _) (by simp) ?_; (case hd => rfl); (case hg => rfl); (case hr => first | (go_simp; done) | (go_simp; rfl)); (case hp => exact (Reps.one (show Kd.M (Kd.int .i64) _ _ _ (wrap64 (1 + (wrap64 (Int.tmod a0_1 3)))) [.int .i64 (wrap64 (1 + (wrap64 (Int.tmod a0_1 3))))] from rfl) (Reps.none _ _))); intro v194 w42 ho43 hb hg_ hnew_; clear hg_ hnew_; (first | rw [← Ny193.out] at ho43 | (simp only [Int.reduceToNat] at ho43; rw [← Ny193.out] at ho43)); have n0_ := Aside0.mk (Kd.R_lower ho43 (below_size (by repeat (first | (with_reducible first | exact HB.out | apply below_alloc | apply pw_below_drewN | apply below_drew1 | refine below_set ?_ GE187.out | refine below_set ?_ GE188.out | refine below_set ?_ GE189.out) | exact HB.out)))); have n1_ := Aside0.mk (blk_below (g := gb187) (o := .cells #[.int .u8 a0_0, .int .u8 a0_1, .int .u8 a0_2] 46 (0, 0)) (by (with_reducible repeat (first | refine blk_drewN ?_ _ | refine blk_drew ?_ | refine blk_alloc ?_ _)); exact BK187.out) hb); have n2_ := Aside0.mk (blk_below (g := gb188) (o := .cells #[.bool false, .int .i64 0, .slice none 0 0, .bool false, .bool false, .bool false, .bool false, .int .i64 0] 38 (0, 0)) (by (with_reducible repeat (first | refine blk_drewN ?_ _ | refine blk_drew ?_ | refine blk_alloc ?_ _)); exact BK188.out) hb); have n3_ := Aside0.mk (blk_below (g := gb189) (o := .cells #[.bool false, .int .i64 0, .slice none 0 0, .bool false, .bool false, .bool false, .bool false, .int .i64 0] 38 (0, 0)) (by (with_reducible repeat (first | refine blk_drewN ?_ _ | refine blk_drew ?_ | refine blk_alloc ?_ _)); exact BK189.out) hb); have n4_ := Aside0.mk (below_step (by repeat (first | (with_reducible first | exact HB.out | apply below_alloc | apply pw_below_drewN | apply below_drew1 | refine below_set ?_ GE187.out | refine below_set ?_ GE188.out | refine below_set ?_ GE189.out) | exact HB.out)) hb); clear BK187; clear BK188; clear BK189; clear HB; have HO195 := n0_; have BK187 := n1_; have BK188 := n2_; have BK189 := n3_; have HB := n4_; clear n0_ n1_ n2_ n3_ n4_; clear hb ho43; obtain ⟨Ao44, co44, eo44⟩ := Kd.R_slice HO195.out; subst eo44; have hnb45 := NB189_188.out; have hnc45 := NB188_189.out; have hcz46_0 : w42.cell? ⟨gb189, 0, none⟩ = some (.bool false) := (blk_cell BK189.out 0).trans rfl; have hcz46_1 : w42.cell? ⟨gb189, 1, none⟩ = some (.int .i64 0) := (blk_cell BK189.out 1).trans rfl; have hcz46_2 : w42.cell? ⟨gb189, 2, none⟩ = some (.slice none 0 0) := (blk_cell BK189.out 2).trans rfl; have hcz46_3 : w42.cell? ⟨gb189, 3, none⟩ = some (.bool false) := (blk_cell BK189.out 3).trans rfl; have hcz46_4 : w42.cell? ⟨gb189, 4, none⟩ = some (.bool false) := (blk_cell BK189.out 4).trans rfl; have hcz46_5 : w42.cell? ⟨gb189, 5, none⟩ = some (.bool false) := (blk_cell BK189.out 5).trans rfl; have hcz46_6 : w42.cell? ⟨gb189, 6, none⟩ = some (.bool false) := (blk_cell BK189.out 6).trans rfl; have hcz46_7 : w42.cell? ⟨gb189, 7, none⟩ = some (.int .i64 0) := (blk_cell BK189.out 7).trans rfl; have hfz46_0 := blk_frozen BK189.out 0; have hfz46_1 := blk_frozen BK189.out 1; have hfz46_2 := blk_frozen BK189.out 2; have hfz46_3 := blk_frozen BK189.out 3; have hfz46_4 := blk_frozen BK189.out 4; have hfz46_5 := blk_frozen BK189.out 5; have hfz46_6 := blk_frozen BK189.out 6; have hfz46_7 := blk_frozen BK189.out 7; have hcz47_0 : w42.cell? ⟨gb188, 0, none⟩ = some (.bool false) := (blk_cell BK188.out 0).trans rfl; have hcz47_1 : w42.cell? ⟨gb188, 1, none⟩ = some (.int .i64 0) := (blk_cell BK188.out 1).trans rfl; have hcz47_2 : w42.cell? ⟨gb188, 2, none⟩ = some (.slice none 0 0) := (blk_cell BK188.out 2).trans rfl; have hcz47_3 : w42.cell? ⟨gb188, 3, none⟩ = some (.bool false) := (blk_cell BK188.out 3).trans rfl; have hcz47_4 : w42.cell? ⟨gb188, 4, none⟩ = some (.bool false) := (blk_cell BK188.out 4).trans rfl; have hcz47_5 : w42.cell? ⟨gb188, 5, none⟩ = some (.bool false) := (blk_cell BK188.out 5).trans rfl; have hcz47_6 : w42.cell? ⟨gb188, 6, none⟩ = some (.bool false) := (blk_cell BK188.out 6).trans rfl; have hcz47_7 : w42.cell? ⟨gb188, 7, none⟩ = some (.int .i64 0) := (blk_cell BK188.out 7).trans rfl; have hfz47_0 := blk_frozen BK188.out 0; have hfz47_1 := blk_frozen BK188.out 1; have hfz47_2 := blk_frozen BK188.out 2; have hfz47_3 := blk_frozen BK188.out 3; have hfz47_4 := blk_frozen BK188.out 4; have hfz47_5 := blk_frozen BK188.out 5; have hfz47_6 := blk_frozen BK188.out 6; have hfz47_7 := blk_frozen BK188.out 7))
                  refine bodyPost_ret (results_cell_row rfl _ _ gb188 38 #[.bool false, .int .i64 0, .slice Ao44 y193.length co44, .bool false, .bool false, .bool false, .bool false, .int .i64 0] (0, 0) _ rfl (by (with_reducible repeat (first | refine blk_drewN ?_ _ | refine blk_drew ?_ | refine blk_alloc ?_ _)); refine blk_put (cs := #[.bool false, .int .i64 0, .slice Ao44 y193.length co44, .bool false, .bool false, .bool false, .bool false, .int .i64 0]) ?_ 7 _ rfl; (with_reducible repeat (first | refine blk_drewN ?_ _ | refine blk_drew ?_ | refine blk_alloc ?_ _)); refine blk_put (cs := #[.bool false, .int .i64 0, .slice Ao44 y193.length co44, .bool false, .bool false, .bool false, .bool false, .int .i64 0]) ?_ 6 _ rfl; (with_reducible repeat (first | refine blk_drewN ?_ _ | refine blk_drew ?_ | refine blk_alloc ?_ _)); refine blk_put (cs := #[.bool false, .int .i64 0, .slice Ao44 y193.length co44, .bool false, .bool false, .bool false, .bool false, .int .i64 0]) ?_ 5 _ rfl; (with_reducible repeat (first | refine blk_drewN ?_ _ | refine blk_drew ?_ | refine blk_alloc ?_ _)); refine blk_put (cs := #[.bool false, .int .i64 0, .slice Ao44 y193.length co44, .bool false, .bool false, .bool false, .bool false, .int .i64 0]) ?_ 4 _ rfl; (with_reducible repeat (first | refine blk_drewN ?_ _ | refine blk_drew ?_ | refine blk_alloc ?_ _)); refine blk_put (cs := #[.bool false, .int .i64 0, .slice Ao44 y193.length co44, .bool false, .bool false, .bool false, .bool false, .int .i64 0]) ?_ 3 _ rfl; (with_reducible repeat (first | refine blk_drewN ?_ _ | refine blk_drew ?_ | refine blk_alloc ?_ _)); refine blk_put (cs := #[.bool false, .int .i64 0, .slice none 0 0, .bool false, .bool false, .bool false, .bool false, .int .i64 0]) ?_ 2 _ rfl; (with_reducible repeat (first | refine blk_drewN ?_ _ | refine blk_drew ?_ | refine blk_alloc ?_ _)); refine blk_put (cs := #[.bool false, .int .i64 0, .slice none 0 0, .bool false, .bool false, .bool false, .bool false, .int .i64 0]) ?_ 1 _ rfl; (with_reducible repeat (first | refine blk_drewN ?_ _ | refine blk_drew ?_ | refine blk_alloc ?_ _)); refine blk_put (cs := #[.bool false, .int .i64 0, .slice none 0 0, .bool false, .bool false, .bool false, .bool false, .int .i64 0]) ?_ 0 _ rfl; (with_reducible repeat (first | refine blk_drewN ?_ _ | refine blk_drew ?_ | refine blk_alloc ?_ _)); refine blk_far ?_ NB188_189.out _; (with_reducible repeat (first | refine blk_drewN ?_ _ | refine blk_drew ?_ | refine blk_alloc ?_ _)); exact BK188.out) Try.underlying38 rfl (by kernel_rfl)) rfl ?_
                  exact ⟨_, by first | rfl | (simp [errW_none, errW_some] <;> rfl) | (simp [*, errW_none, errW_some] <;> rfl), by (with_reducible repeat (first | apply Kd.R_alloc | apply Kd.R_drewN | apply Kd.R_drew)); exact Kd.R_mono (Kd.R_far (p := ⟨gb188, 7, none⟩) (Kd.R_far (p := ⟨gb188, 6, none⟩) (Kd.R_far (p := ⟨gb188, 5, none⟩) (Kd.R_far (p := ⟨gb188, 4, none⟩) (Kd.R_far (p := ⟨gb188, 3, none⟩) (Kd.R_far (p := ⟨gb188, 2, none⟩) (Kd.R_far (p := ⟨gb188, 1, none⟩) (Kd.R_far (p := ⟨gb188, 0, none⟩) (Kd.R_far (p := ⟨gb189, 2, none⟩) (Kd.R_types (Kd.R_types HO195.out BK189.out (by decide)) BK188.out (by decide)) (fun _ hk => hk.1.2) (.slice Ao44 y193.length co44)) (fun _ hk => hk.2) (.bool false)) (fun _ hk => hk.2) (.int .i64 0)) (fun _ hk => hk.2) (.slice Ao44 y193.length co44)) (fun _ hk => hk.2) (.bool false)) (fun _ hk => hk.2) (.bool false)) (fun _ hk => hk.2) (.bool false)) (fun _ hk => hk.2) (.bool false)) (fun _ hk => hk.2) (.int .i64 0)) (fun _ hk => trivial), by repeat (first | (with_reducible first | exact HB.out | apply below_alloc | apply pw_below_drewN | apply below_drew1 | refine below_set ?_ GE187.out | refine below_set ?_ GE188.out | refine below_set ?_ GE189.out) | exact HB.out)⟩
                · rw [if_neg c38] at H
                  have c38b0 : ((Int.tmod a0_0 16) == 5) = false := beq_eq_false_iff_ne.mpr c38
                  have c38b1 : ((Int.tmod a0_0 16) != 5) = true := bne_iff_ne.mpr c38
                  by_cases c48 : (Int.tmod a0_0 16) = 6
                  · rw [if_pos c48] at H
                    have c48b0 : ((Int.tmod a0_0 16) == 6) = true := beq_iff_eq.mpr c48
                    have c48b1 : ((Int.tmod a0_0 16) != 6) = false := bne_eq_false_iff_eq.mpr c48
                    clear c48
                    obtain ⟨y196, hy196⟩ : ∃ y_ : List Int, y_ = (([1, wrap64 (2 + (wrap64 (Int.tmod a0_1 2)))] : List Int)) := ⟨_, rfl⟩
                    replace H : (some (false, 3, y196, false, false, false, false, 0)) = some (r1, r2, r3, r4, r5, r6, r7, r8) := by first | (rw [hy196]; with_reducible exact H) | (have H2_ := (Option.bind_some _ _).symm.trans H; rw [hy196]; with_reducible exact H2_) | (have H2_ := (Option.bind_some _ _).symm.trans H; with_reducible exact H2_) | with_reducible exact H | (rw [hy196]; exact H) | exact H
                    have Ny196 := Aside0.mk hy196
                    clear hy196
                    simp only [Option.some.injEq, Prod.mk.injEq] at H
                    obtain ⟨rfl, rfl, rfl, rfl, rfl, rfl, rfl, rfl⟩ := H
                    have hnb49 := NB187_188.out
                    have hnc49 := NB188_187.out
                    have hnb50 := NB187_189.out
                    have hnc50 := NB189_187.out
                    have hcz51_0 : wc.cell? ⟨gb187, 0, none⟩ = some (.int .u8 a0_0) := (blk_cell BK187.out 0).trans rfl
                    have hcz51_1 : wc.cell? ⟨gb187, 1, none⟩ = some (.int .u8 a0_1) := (blk_cell BK187.out 1).trans rfl
                    have hcz51_2 : wc.cell? ⟨gb187, 2, none⟩ = some (.int .u8 a0_2) := (blk_cell BK187.out 2).trans rfl
                    have hfz51_0 := blk_frozen BK187.out 0
                    have hfz51_1 := blk_frozen BK187.out 1
                    have hfz51_2 := blk_frozen BK187.out 2
                    go_wp2_with (first | ((with_reducible refine gate_dst (N := 52) rfl ?_); refine Kd.R_lit (Kd.int .i64) _ 3 ?hg (N := 52) ?hd (xs := ([1, wrap64 (2 + (wrap64 (Int.tmod a0_1 2)))] : List Int)) (inner := [.int .i64 1, .int .i64 (wrap64 (2 + (wrap64 (Int.tmod a0_1 2))))]) (ok := fun _ => True) (okp := fun _ => True) ?hr ?hp (fun _ hk => hk) trivial (Below.refl _ _) (Nat.le_refl _) (by simp) ?_; (case hd => rfl); (case hg => rfl); (case hr => first | (go_simp; done) | (go_simp; rfl)); (case hp => exact (Reps.one (show Kd.M (Kd.int .i64) _ _ _ 1 [.int .i64 1] from rfl) (Reps.one (show Kd.M (Kd.int .i64) _ _ _ (wrap64 (2 + (wrap64 (Int.tmod a0_1 2)))) [.int .i64 (wrap64 (2 + (wrap64 (Int.tmod a0_1 2))))] from rfl) (Reps.none _ _)))); intro v197 w52 ho53 hb hg_ hnew_; clear hg_ hnew_; (first | rw [← Ny196.out] at ho53 | (simp only [Int.reduceToNat] at ho53; rw [← Ny196.out] at ho53)); have n0_ := Aside0.mk (Kd.R_lower ho53 (below_size (by repeat (first | (with_reducible first | exact HB.out | apply below_alloc | apply pw_below_drewN | apply below_drew1 | refine below_set ?_ GE187.out | refine below_set ?_ GE188.out | refine below_set ?_ GE189.out) | exact HB.out)))); have n1_ := Aside0.mk (blk_below (g := gb187) (o := .cells #[.int .u8 a0_0, .int .u8 a0_1, .int .u8 a0_2] 46 (0, 0)) (by (with_reducible repeat (first | refine blk_drewN ?_ _ | refine blk_drew ?_ | refine blk_alloc ?_ _)); exact BK187.out) hb); have n2_ := Aside0.mk (blk_below (g := gb188) (o := .cells #[.bool false, .int .i64 0, .slice none 0 0, .bool false, .bool false, .bool false, .bool false, .int .i64 0] 38 (0, 0)) (by (with_reducible repeat (first | refine blk_drewN ?_ _ | refine blk_drew ?_ | refine blk_alloc ?_ _)); exact BK188.out) hb); have n3_ := Aside0.mk (blk_below (g := gb189) (o := .cells #[.bool false, .int .i64 0, .slice none 0 0, .bool false, .bool false, .bool false, .bool false, .int .i64 0] 38 (0, 0)) (by (with_reducible repeat (first | refine blk_drewN ?_ _ | refine blk_drew ?_ | refine blk_alloc ?_ _)); exact BK189.out) hb); have n4_ := Aside0.mk (below_step (by repeat (first | (with_reducible first | exact HB.out | apply below_alloc | apply pw_below_drewN | apply below_drew1 | refine below_set ?_ GE187.out | refine below_set ?_ GE188.out | refine below_set ?_ GE189.out) | exact HB.out)) hb); clear BK187; clear BK188; clear BK189; clear HB; have HO198 := n0_; have BK187 := n1_; have BK188 := n2_; have BK189 := n3_; have HB := n4_; clear n0_ n1_ n2_ n3_ n4_; clear hb ho53; obtain ⟨Ao54, co54, eo54⟩ := Kd.R_slice HO198.out; subst eo54; have hnb55 := NB189_188.out; have hnc55 := NB188_189.out; have hcz56_0 : w52.cell? ⟨gb189, 0, none⟩ = some (.bool false) := (blk_cell BK189.out 0).trans rfl; have hcz56_1 : w52.cell? ⟨gb189, 1, none⟩ = some (.int .i64 0) := (blk_cell BK189.out 1).trans rfl; have hcz56_2 : w52.cell? ⟨gb189, 2, none⟩ = some (.slice none 0 0) := (blk_cell BK189.out 2).trans rfl; have hcz56_3 : w52.cell? ⟨gb189, 3, none⟩ = some (.bool false) := (blk_cell BK189.out 3).trans rfl; have hcz56_4 : w52.cell? ⟨gb189, 4, none⟩ = some (.bool false) := (blk_cell BK189.out 4).trans rfl; have hcz56_5 : w52.cell? ⟨gb189, 5, none⟩ = some (.bool false) := (blk_cell BK189.out 5).trans rfl; have hcz56_6 : w52.cell? ⟨gb189, 6, none⟩ = some (.bool false) := (blk_cell BK189.out 6).trans rfl; have hcz56_7 : w52.cell? ⟨gb189, 7, none⟩ = some (.int .i64 0) := (blk_cell BK189.out 7).trans rfl; have hfz56_0 := blk_frozen BK189.out 0; have hfz56_1 := blk_frozen BK189.out 1; have hfz56_2 := blk_frozen BK189.out 2; have hfz56_3 := blk_frozen BK189.out 3; have hfz56_4 := blk_frozen BK189.out 4; have hfz56_5 := blk_frozen BK189.out 5; have hfz56_6 := blk_frozen BK189.out 6; have hfz56_7 := blk_frozen BK189.out 7; have hcz57_0 : w52.cell? ⟨gb188, 0, none⟩ = some (.bool false) := (blk_cell BK188.out 0).trans rfl; have hcz57_1 : w52.cell? ⟨gb188, 1, none⟩ = some (.int .i64 0) := (blk_cell BK188.out 1).trans rfl; have hcz57_2 : w52.cell? ⟨gb188, 2, none⟩ = some (.slice none 0 0) := (blk_cell BK188.out 2).trans rfl; have hcz57_3 : w52.cell? ⟨gb188, 3, none⟩ = some (.bool false) := (blk_cell BK188.out 3).trans rfl; have hcz57_4 : w52.cell? ⟨gb188, 4, none⟩ = some (.bool false) := (blk_cell BK188.out 4).trans rfl; have hcz57_5 : w52.cell? ⟨gb188, 5, none⟩ = some (.bool false) := (blk_cell BK188.out 5).trans rfl; have hcz57_6 : w52.cell? ⟨gb188, 6, none⟩ = some (.bool false) := (blk_cell BK188.out 6).trans rfl; have hcz57_7 : w52.cell? ⟨gb188, 7, none⟩ = some (.int .i64 0) := (blk_cell BK188.out 7).trans rfl; have hfz57_0 := blk_frozen BK188.out 0; have hfz57_1 := blk_frozen BK188.out 1; have hfz57_2 := blk_frozen BK188.out 2; have hfz57_3 := blk_frozen BK188.out 3; have hfz57_4 := blk_frozen BK188.out 4; have hfz57_5 := blk_frozen BK188.out 5; have hfz57_6 := blk_frozen BK188.out 6; have hfz57_7 := blk_frozen BK188.out 7))
                    refine bodyPost_ret (results_cell_row rfl _ _ gb188 38 #[.bool false, .int .i64 3, .slice Ao54 y196.length co54, .bool false, .bool false, .bool false, .bool false, .int .i64 0] (0, 0) _ rfl (by (with_reducible repeat (first | refine blk_drewN ?_ _ | refine blk_drew ?_ | refine blk_alloc ?_ _)); refine blk_put (cs := #[.bool false, .int .i64 3, .slice Ao54 y196.length co54, .bool false, .bool false, .bool false, .bool false, .int .i64 0]) ?_ 7 _ rfl; (with_reducible repeat (first | refine blk_drewN ?_ _ | refine blk_drew ?_ | refine blk_alloc ?_ _)); refine blk_put (cs := #[.bool false, .int .i64 3, .slice Ao54 y196.length co54, .bool false, .bool false, .bool false, .bool false, .int .i64 0]) ?_ 6 _ rfl; (with_reducible repeat (first | refine blk_drewN ?_ _ | refine blk_drew ?_ | refine blk_alloc ?_ _)); refine blk_put (cs := #[.bool false, .int .i64 3, .slice Ao54 y196.length co54, .bool false, .bool false, .bool false, .bool false, .int .i64 0]) ?_ 5 _ rfl; (with_reducible repeat (first | refine blk_drewN ?_ _ | refine blk_drew ?_ | refine blk_alloc ?_ _)); refine blk_put (cs := #[.bool false, .int .i64 3, .slice Ao54 y196.length co54, .bool false, .bool false, .bool false, .bool false, .int .i64 0]) ?_ 4 _ rfl; (with_reducible repeat (first | refine blk_drewN ?_ _ | refine blk_drew ?_ | refine blk_alloc ?_ _)); refine blk_put (cs := #[.bool false, .int .i64 3, .slice Ao54 y196.length co54, .bool false, .bool false, .bool false, .bool false, .int .i64 0]) ?_ 3 _ rfl; (with_reducible repeat (first | refine blk_drewN ?_ _ | refine blk_drew ?_ | refine blk_alloc ?_ _)); refine blk_put (cs := #[.bool false, .int .i64 3, .slice none 0 0, .bool false, .bool false, .bool false, .bool false, .int .i64 0]) ?_ 2 _ rfl; (with_reducible repeat (first | refine blk_drewN ?_ _ | refine blk_drew ?_ | refine blk_alloc ?_ _)); refine blk_put (cs := #[.bool false, .int .i64 0, .slice none 0 0, .bool false, .bool false, .bool false, .bool false, .int .i64 0]) ?_ 1 _ rfl; (with_reducible repeat (first | refine blk_drewN ?_ _ | refine blk_drew ?_ | refine blk_alloc ?_ _)); refine blk_put (cs := #[.bool false, .int .i64 0, .slice none 0 0, .bool false, .bool false, .bool false, .bool false, .int .i64 0]) ?_ 0 _ rfl; (with_reducible repeat (first | refine blk_drewN ?_ _ | refine blk_drew ?_ | refine blk_alloc ?_ _)); refine blk_far ?_ NB188_189.out _; (with_reducible repeat (first | refine blk_drewN ?_ _ | refine blk_drew ?_ | refine blk_alloc ?_ _)); refine blk_far ?_ NB188_189.out _; (with_reducible repeat (first | refine blk_drewN ?_ _ | refine blk_drew ?_ | refine blk_alloc ?_ _)); exact BK188.out) Try.underlying38 rfl (by kernel_rfl)) rfl ?_
                    exact ⟨_, by first | rfl | (simp [errW_none, errW_some] <;> rfl) | (simp [*, errW_none, errW_some] <;> rfl), by (with_reducible repeat (first | apply Kd.R_alloc | apply Kd.R_drewN | apply Kd.R_drew)); exact Kd.R_mono (Kd.R_far (p := ⟨gb188, 7, none⟩) (Kd.R_far (p := ⟨gb188, 6, none⟩) (Kd.R_far (p := ⟨gb188, 5, none⟩) (Kd.R_far (p := ⟨gb188, 4, none⟩) (Kd.R_far (p := ⟨gb188, 3, none⟩) (Kd.R_far (p := ⟨gb188, 2, none⟩) (Kd.R_far (p := ⟨gb188, 1, none⟩) (Kd.R_far (p := ⟨gb188, 0, none⟩) (Kd.R_far (p := ⟨gb189, 1, none⟩) (Kd.R_far (p := ⟨gb189, 2, none⟩) (Kd.R_types (Kd.R_types HO198.out BK189.out (by decide)) BK188.out (by decide)) (fun _ hk => hk.1.2) (.slice Ao54 y196.length co54)) (fun _ hk => hk.1.2) (.int .i64 3)) (fun _ hk => hk.2) (.bool false)) (fun _ hk => hk.2) (.int .i64 3)) (fun _ hk => hk.2) (.slice Ao54 y196.length co54)) (fun _ hk => hk.2) (.bool false)) (fun _ hk => hk.2) (.bool false)) (fun _ hk => hk.2) (.bool false)) (fun _ hk => hk.2) (.bool false)) (fun _ hk => hk.2) (.int .i64 0)) (fun _ hk => trivial), by repeat (first | (with_reducible first | exact HB.out | apply below_alloc | apply pw_below_drewN | apply below_drew1 | refine below_set ?_ GE187.out | refine below_set ?_ GE188.out | refine below_set ?_ GE189.out) | exact HB.out)⟩
                  · rw [if_neg c48] at H
                    have c48b0 : ((Int.tmod a0_0 16) == 6) = false := beq_eq_false_iff_ne.mpr c48
                    have c48b1 : ((Int.tmod a0_0 16) != 6) = true := bne_iff_ne.mpr c48
                    by_cases c58 : (Int.tmod a0_0 16) = 7
                    · rw [if_pos c58] at H
                      have c58b0 : ((Int.tmod a0_0 16) == 7) = true := beq_iff_eq.mpr c58
                      have c58b1 : ((Int.tmod a0_0 16) != 7) = false := bne_eq_false_iff_eq.mpr c58
                      clear c58
                      simp only [Option.some.injEq, Prod.mk.injEq] at H
                      obtain ⟨rfl, rfl, rfl, rfl, rfl, rfl, rfl, rfl⟩ := H
                      have hnb59 := NB189_187.out
                      have hnc59 := NB187_189.out
                      have hnb60 := NB189_188.out
                      have hnc60 := NB188_189.out
                      have hcz61_0 : wc.cell? ⟨gb189, 0, none⟩ = some (.bool false) := (blk_cell BK189.out 0).trans rfl
                      have hcz61_1 : wc.cell? ⟨gb189, 1, none⟩ = some (.int .i64 0) := (blk_cell BK189.out 1).trans rfl
                      have hcz61_2 : wc.cell? ⟨gb189, 2, none⟩ = some (.slice none 0 0) := (blk_cell BK189.out 2).trans rfl
                      have hcz61_3 : wc.cell? ⟨gb189, 3, none⟩ = some (.bool false) := (blk_cell BK189.out 3).trans rfl
                      have hcz61_4 : wc.cell? ⟨gb189, 4, none⟩ = some (.bool false) := (blk_cell BK189.out 4).trans rfl
                      have hcz61_5 : wc.cell? ⟨gb189, 5, none⟩ = some (.bool false) := (blk_cell BK189.out 5).trans rfl
                      have hcz61_6 : wc.cell? ⟨gb189, 6, none⟩ = some (.bool false) := (blk_cell BK189.out 6).trans rfl
                      have hcz61_7 : wc.cell? ⟨gb189, 7, none⟩ = some (.int .i64 0) := (blk_cell BK189.out 7).trans rfl
                      have hfz61_0 := blk_frozen BK189.out 0
                      have hfz61_1 := blk_frozen BK189.out 1
                      have hfz61_2 := blk_frozen BK189.out 2
                      have hfz61_3 := blk_frozen BK189.out 3
                      have hfz61_4 := blk_frozen BK189.out 4
                      have hfz61_5 := blk_frozen BK189.out 5
                      have hfz61_6 := blk_frozen BK189.out 6
                      have hfz61_7 := blk_frozen BK189.out 7
                      have hnb62 := NB188_187.out
                      have hnc62 := NB187_188.out
                      have hcz63_0 : wc.cell? ⟨gb188, 0, none⟩ = some (.bool false) := (blk_cell BK188.out 0).trans rfl
                      have hcz63_1 : wc.cell? ⟨gb188, 1, none⟩ = some (.int .i64 0) := (blk_cell BK188.out 1).trans rfl
                      have hcz63_2 : wc.cell? ⟨gb188, 2, none⟩ = some (.slice none 0 0) := (blk_cell BK188.out 2).trans rfl
                      have hcz63_3 : wc.cell? ⟨gb188, 3, none⟩ = some (.bool false) := (blk_cell BK188.out 3).trans rfl
                      have hcz63_4 : wc.cell? ⟨gb188, 4, none⟩ = some (.bool false) := (blk_cell BK188.out 4).trans rfl
                      have hcz63_5 : wc.cell? ⟨gb188, 5, none⟩ = some (.bool false) := (blk_cell BK188.out 5).trans rfl
                      have hcz63_6 : wc.cell? ⟨gb188, 6, none⟩ = some (.bool false) := (blk_cell BK188.out 6).trans rfl
                      have hcz63_7 : wc.cell? ⟨gb188, 7, none⟩ = some (.int .i64 0) := (blk_cell BK188.out 7).trans rfl
                      have hfz63_0 := blk_frozen BK188.out 0
                      have hfz63_1 := blk_frozen BK188.out 1
                      have hfz63_2 := blk_frozen BK188.out 2
                      have hfz63_3 := blk_frozen BK188.out 3
                      have hfz63_4 := blk_frozen BK188.out 4
                      have hfz63_5 := blk_frozen BK188.out 5
                      have hfz63_6 := blk_frozen BK188.out 6
                      have hfz63_7 := blk_frozen BK188.out 7
                      go_wp2
                      refine bodyPost_ret (results_cell_row rfl _ _ gb188 38 #[.bool false, .int .i64 0, .slice none 0 0, .bool false, .bool false, .bool false, .bool true, .int .i64 0] (0, 0) _ rfl (by (with_reducible repeat (first | refine blk_drewN ?_ _ | refine blk_drew ?_ | refine blk_alloc ?_ _)); refine blk_put (cs := #[.bool false, .int .i64 0, .slice none 0 0, .bool false, .bool false, .bool false, .bool true, .int .i64 0]) ?_ 7 _ rfl; (with_reducible repeat (first | refine blk_drewN ?_ _ | refine blk_drew ?_ | refine blk_alloc ?_ _)); refine blk_put (cs := #[.bool false, .int .i64 0, .slice none 0 0, .bool false, .bool false, .bool false, .bool false, .int .i64 0]) ?_ 6 _ rfl; (with_reducible repeat (first | refine blk_drewN ?_ _ | refine blk_drew ?_ | refine blk_alloc ?_ _)); refine blk_put (cs := #[.bool false, .int .i64 0, .slice none 0 0, .bool false, .bool false, .bool false, .bool false, .int .i64 0]) ?_ 5 _ rfl; (with_reducible repeat (first | refine blk_drewN ?_ _ | refine blk_drew ?_ | refine blk_alloc ?_ _)); refine blk_put (cs := #[.bool false, .int .i64 0, .slice none 0 0, .bool false, .bool false, .bool false, .bool false, .int .i64 0]) ?_ 4 _ rfl; (with_reducible repeat (first | refine blk_drewN ?_ _ | refine blk_drew ?_ | refine blk_alloc ?_ _)); refine blk_put (cs := #[.bool false, .int .i64 0, .slice none 0 0, .bool false, .bool false, .bool false, .bool false, .int .i64 0]) ?_ 3 _ rfl; (with_reducible repeat (first | refine blk_drewN ?_ _ | refine blk_drew ?_ | refine blk_alloc ?_ _)); refine blk_put (cs := #[.bool false, .int .i64 0, .slice none 0 0, .bool false, .bool false, .bool false, .bool false, .int .i64 0]) ?_ 2 _ rfl; (with_reducible repeat (first | refine blk_drewN ?_ _ | refine blk_drew ?_ | refine blk_alloc ?_ _)); refine blk_put (cs := #[.bool false, .int .i64 0, .slice none 0 0, .bool false, .bool false, .bool false, .bool false, .int .i64 0]) ?_ 1 _ rfl; (with_reducible repeat (first | refine blk_drewN ?_ _ | refine blk_drew ?_ | refine blk_alloc ?_ _)); refine blk_put (cs := #[.bool false, .int .i64 0, .slice none 0 0, .bool false, .bool false, .bool false, .bool false, .int .i64 0]) ?_ 0 _ rfl; (with_reducible repeat (first | refine blk_drewN ?_ _ | refine blk_drew ?_ | refine blk_alloc ?_ _)); refine blk_far ?_ NB188_189.out _; (with_reducible repeat (first | refine blk_drewN ?_ _ | refine blk_drew ?_ | refine blk_alloc ?_ _)); exact BK188.out) Try.underlying38 rfl (by kernel_rfl)) rfl ?_
                      exact ⟨_, by first | rfl | (simp [errW_none, errW_some] <;> rfl) | (simp [*, errW_none, errW_some] <;> rfl), by first | exact Kd.R_nil _ _ _ _ _ | exact Kd.N_nil _ _ _ _ _ | exact Kd.V_nil _ _ _ _ _ | exact Kd.Q_nil _ _ _ _ _ | exact Kd.S_nil _ _ _ _ _, by repeat (first | (with_reducible first | exact HB.out | apply below_alloc | apply pw_below_drewN | apply below_drew1 | refine below_set ?_ GE187.out | refine below_set ?_ GE188.out | refine below_set ?_ GE189.out) | exact HB.out)⟩
                    · rw [if_neg c58] at H
                      have c58b0 : ((Int.tmod a0_0 16) == 7) = false := beq_eq_false_iff_ne.mpr c58
                      have c58b1 : ((Int.tmod a0_0 16) != 7) = true := bne_iff_ne.mpr c58
                      by_cases c64 : (Int.tmod a0_0 16) = 8
                      · rw [if_pos c64] at H
                        have c64b0 : ((Int.tmod a0_0 16) == 8) = true := beq_iff_eq.mpr c64
                        have c64b1 : ((Int.tmod a0_0 16) != 8) = false := bne_eq_false_iff_eq.mpr c64
                        clear c64
                        simp only [Option.some.injEq, Prod.mk.injEq] at H
                        obtain ⟨rfl, rfl, rfl, rfl, rfl, rfl, rfl, rfl⟩ := H
                        have hnb65 := NB189_187.out
                        have hnc65 := NB187_189.out
                        have hnb66 := NB189_188.out
                        have hnc66 := NB188_189.out
                        have hcz67_0 : wc.cell? ⟨gb189, 0, none⟩ = some (.bool false) := (blk_cell BK189.out 0).trans rfl
                        have hcz67_1 : wc.cell? ⟨gb189, 1, none⟩ = some (.int .i64 0) := (blk_cell BK189.out 1).trans rfl
                        have hcz67_2 : wc.cell? ⟨gb189, 2, none⟩ = some (.slice none 0 0) := (blk_cell BK189.out 2).trans rfl
                        have hcz67_3 : wc.cell? ⟨gb189, 3, none⟩ = some (.bool false) := (blk_cell BK189.out 3).trans rfl
                        have hcz67_4 : wc.cell? ⟨gb189, 4, none⟩ = some (.bool false) := (blk_cell BK189.out 4).trans rfl
                        have hcz67_5 : wc.cell? ⟨gb189, 5, none⟩ = some (.bool false) := (blk_cell BK189.out 5).trans rfl
                        have hcz67_6 : wc.cell? ⟨gb189, 6, none⟩ = some (.bool false) := (blk_cell BK189.out 6).trans rfl
                        have hcz67_7 : wc.cell? ⟨gb189, 7, none⟩ = some (.int .i64 0) := (blk_cell BK189.out 7).trans rfl
                        have hfz67_0 := blk_frozen BK189.out 0
                        have hfz67_1 := blk_frozen BK189.out 1
                        have hfz67_2 := blk_frozen BK189.out 2
                        have hfz67_3 := blk_frozen BK189.out 3
                        have hfz67_4 := blk_frozen BK189.out 4
                        have hfz67_5 := blk_frozen BK189.out 5
                        have hfz67_6 := blk_frozen BK189.out 6
                        have hfz67_7 := blk_frozen BK189.out 7
                        have hnb68 := NB188_187.out
                        have hnc68 := NB187_188.out
                        have hcz69_0 : wc.cell? ⟨gb188, 0, none⟩ = some (.bool false) := (blk_cell BK188.out 0).trans rfl
                        have hcz69_1 : wc.cell? ⟨gb188, 1, none⟩ = some (.int .i64 0) := (blk_cell BK188.out 1).trans rfl
                        have hcz69_2 : wc.cell? ⟨gb188, 2, none⟩ = some (.slice none 0 0) := (blk_cell BK188.out 2).trans rfl
                        have hcz69_3 : wc.cell? ⟨gb188, 3, none⟩ = some (.bool false) := (blk_cell BK188.out 3).trans rfl
                        have hcz69_4 : wc.cell? ⟨gb188, 4, none⟩ = some (.bool false) := (blk_cell BK188.out 4).trans rfl
                        have hcz69_5 : wc.cell? ⟨gb188, 5, none⟩ = some (.bool false) := (blk_cell BK188.out 5).trans rfl
                        have hcz69_6 : wc.cell? ⟨gb188, 6, none⟩ = some (.bool false) := (blk_cell BK188.out 6).trans rfl
                        have hcz69_7 : wc.cell? ⟨gb188, 7, none⟩ = some (.int .i64 0) := (blk_cell BK188.out 7).trans rfl
                        have hfz69_0 := blk_frozen BK188.out 0
                        have hfz69_1 := blk_frozen BK188.out 1
                        have hfz69_2 := blk_frozen BK188.out 2
                        have hfz69_3 := blk_frozen BK188.out 3
                        have hfz69_4 := blk_frozen BK188.out 4
                        have hfz69_5 := blk_frozen BK188.out 5
                        have hfz69_6 := blk_frozen BK188.out 6
                        have hfz69_7 := blk_frozen BK188.out 7
                        go_wp2
                        refine bodyPost_ret (results_cell_row rfl _ _ gb188 38 #[.bool false, .int .i64 0, .slice none 0 0, .bool false, .bool false, .bool true, .bool false, .int .i64 0] (0, 0) _ rfl (by (with_reducible repeat (first | refine blk_drewN ?_ _ | refine blk_drew ?_ | refine blk_alloc ?_ _)); refine blk_put (cs := #[.bool false, .int .i64 0, .slice none 0 0, .bool false, .bool false, .bool true, .bool false, .int .i64 0]) ?_ 7 _ rfl; (with_reducible repeat (first | refine blk_drewN ?_ _ | refine blk_drew ?_ | refine blk_alloc ?_ _)); refine blk_put (cs := #[.bool false, .int .i64 0, .slice none 0 0, .bool false, .bool false, .bool true, .bool false, .int .i64 0]) ?_ 6 _ rfl; (with_reducible repeat (first | refine blk_drewN ?_ _ | refine blk_drew ?_ | refine blk_alloc ?_ _)); refine blk_put (cs := #[.bool false, .int .i64 0, .slice none 0 0, .bool false, .bool false, .bool false, .bool false, .int .i64 0]) ?_ 5 _ rfl; (with_reducible repeat (first | refine blk_drewN ?_ _ | refine blk_drew ?_ | refine blk_alloc ?_ _)); refine blk_put (cs := #[.bool false, .int .i64 0, .slice none 0 0, .bool false, .bool false, .bool false, .bool false, .int .i64 0]) ?_ 4 _ rfl; (with_reducible repeat (first | refine blk_drewN ?_ _ | refine blk_drew ?_ | refine blk_alloc ?_ _)); refine blk_put (cs := #[.bool false, .int .i64 0, .slice none 0 0, .bool false, .bool false, .bool false, .bool false, .int .i64 0]) ?_ 3 _ rfl; (with_reducible repeat (first | refine blk_drewN ?_ _ | refine blk_drew ?_ | refine blk_alloc ?_ _)); refine blk_put (cs := #[.bool false, .int .i64 0, .slice none 0 0, .bool false, .bool false, .bool false, .bool false, .int .i64 0]) ?_ 2 _ rfl; (with_reducible repeat (first | refine blk_drewN ?_ _ | refine blk_drew ?_ | refine blk_alloc ?_ _)); refine blk_put (cs := #[.bool false, .int .i64 0, .slice none 0 0, .bool false, .bool false, .bool false, .bool false, .int .i64 0]) ?_ 1 _ rfl; (with_reducible repeat (first | refine blk_drewN ?_ _ | refine blk_drew ?_ | refine blk_alloc ?_ _)); refine blk_put (cs := #[.bool false, .int .i64 0, .slice none 0 0, .bool false, .bool false, .bool false, .bool false, .int .i64 0]) ?_ 0 _ rfl; (with_reducible repeat (first | refine blk_drewN ?_ _ | refine blk_drew ?_ | refine blk_alloc ?_ _)); refine blk_far ?_ NB188_189.out _; (with_reducible repeat (first | refine blk_drewN ?_ _ | refine blk_drew ?_ | refine blk_alloc ?_ _)); exact BK188.out) Try.underlying38 rfl (by kernel_rfl)) rfl ?_
                        exact ⟨_, by first | rfl | (simp [errW_none, errW_some] <;> rfl) | (simp [*, errW_none, errW_some] <;> rfl), by first | exact Kd.R_nil _ _ _ _ _ | exact Kd.N_nil _ _ _ _ _ | exact Kd.V_nil _ _ _ _ _ | exact Kd.Q_nil _ _ _ _ _ | exact Kd.S_nil _ _ _ _ _, by repeat (first | (with_reducible first | exact HB.out | apply below_alloc | apply pw_below_drewN | apply below_drew1 | refine below_set ?_ GE187.out | refine below_set ?_ GE188.out | refine below_set ?_ GE189.out) | exact HB.out)⟩
                      · rw [if_neg c64] at H
                        have c64b0 : ((Int.tmod a0_0 16) == 8) = false := beq_eq_false_iff_ne.mpr c64
                        have c64b1 : ((Int.tmod a0_0 16) != 8) = true := bne_iff_ne.mpr c64
                        by_cases c70 : (Int.tmod a0_0 16) = 9
                        · rw [if_pos c70] at H
                          have c70b0 : ((Int.tmod a0_0 16) == 9) = true := beq_iff_eq.mpr c70
                          have c70b1 : ((Int.tmod a0_0 16) != 9) = false := bne_eq_false_iff_eq.mpr c70
                          clear c70
                          simp only [Option.some.injEq, Prod.mk.injEq] at H
                          obtain ⟨rfl, rfl, rfl, rfl, rfl, rfl, rfl, rfl⟩ := H
                          have hnb71 := NB189_187.out
                          have hnc71 := NB187_189.out
                          have hnb72 := NB189_188.out
                          have hnc72 := NB188_189.out
                          have hcz73_0 : wc.cell? ⟨gb189, 0, none⟩ = some (.bool false) := (blk_cell BK189.out 0).trans rfl
                          have hcz73_1 : wc.cell? ⟨gb189, 1, none⟩ = some (.int .i64 0) := (blk_cell BK189.out 1).trans rfl
                          have hcz73_2 : wc.cell? ⟨gb189, 2, none⟩ = some (.slice none 0 0) := (blk_cell BK189.out 2).trans rfl
                          have hcz73_3 : wc.cell? ⟨gb189, 3, none⟩ = some (.bool false) := (blk_cell BK189.out 3).trans rfl
                          have hcz73_4 : wc.cell? ⟨gb189, 4, none⟩ = some (.bool false) := (blk_cell BK189.out 4).trans rfl
                          have hcz73_5 : wc.cell? ⟨gb189, 5, none⟩ = some (.bool false) := (blk_cell BK189.out 5).trans rfl
                          have hcz73_6 : wc.cell? ⟨gb189, 6, none⟩ = some (.bool false) := (blk_cell BK189.out 6).trans rfl
                          have hcz73_7 : wc.cell? ⟨gb189, 7, none⟩ = some (.int .i64 0) := (blk_cell BK189.out 7).trans rfl
                          have hfz73_0 := blk_frozen BK189.out 0
                          have hfz73_1 := blk_frozen BK189.out 1
                          have hfz73_2 := blk_frozen BK189.out 2
                          have hfz73_3 := blk_frozen BK189.out 3
                          have hfz73_4 := blk_frozen BK189.out 4
                          have hfz73_5 := blk_frozen BK189.out 5
                          have hfz73_6 := blk_frozen BK189.out 6
                          have hfz73_7 := blk_frozen BK189.out 7
                          have hnb74 := NB187_188.out
                          have hnc74 := NB188_187.out
                          have hcz75_0 : wc.cell? ⟨gb187, 0, none⟩ = some (.int .u8 a0_0) := (blk_cell BK187.out 0).trans rfl
                          have hcz75_1 : wc.cell? ⟨gb187, 1, none⟩ = some (.int .u8 a0_1) := (blk_cell BK187.out 1).trans rfl
                          have hcz75_2 : wc.cell? ⟨gb187, 2, none⟩ = some (.int .u8 a0_2) := (blk_cell BK187.out 2).trans rfl
                          have hfz75_0 := blk_frozen BK187.out 0
                          have hfz75_1 := blk_frozen BK187.out 1
                          have hfz75_2 := blk_frozen BK187.out 2
                          have hcz76_0 : wc.cell? ⟨gb188, 0, none⟩ = some (.bool false) := (blk_cell BK188.out 0).trans rfl
                          have hcz76_1 : wc.cell? ⟨gb188, 1, none⟩ = some (.int .i64 0) := (blk_cell BK188.out 1).trans rfl
                          have hcz76_2 : wc.cell? ⟨gb188, 2, none⟩ = some (.slice none 0 0) := (blk_cell BK188.out 2).trans rfl
                          have hcz76_3 : wc.cell? ⟨gb188, 3, none⟩ = some (.bool false) := (blk_cell BK188.out 3).trans rfl
                          have hcz76_4 : wc.cell? ⟨gb188, 4, none⟩ = some (.bool false) := (blk_cell BK188.out 4).trans rfl
                          have hcz76_5 : wc.cell? ⟨gb188, 5, none⟩ = some (.bool false) := (blk_cell BK188.out 5).trans rfl
                          have hcz76_6 : wc.cell? ⟨gb188, 6, none⟩ = some (.bool false) := (blk_cell BK188.out 6).trans rfl
                          have hcz76_7 : wc.cell? ⟨gb188, 7, none⟩ = some (.int .i64 0) := (blk_cell BK188.out 7).trans rfl
                          have hfz76_0 := blk_frozen BK188.out 0
                          have hfz76_1 := blk_frozen BK188.out 1
                          have hfz76_2 := blk_frozen BK188.out 2
                          have hfz76_3 := blk_frozen BK188.out 3
                          have hfz76_4 := blk_frozen BK188.out 4
                          have hfz76_5 := blk_frozen BK188.out 5
                          have hfz76_6 := blk_frozen BK188.out 6
                          have hfz76_7 := blk_frozen BK188.out 7
                          go_wp2
                          refine bodyPost_ret (results_cell_row rfl _ _ gb188 38 #[.bool true, .int .i64 (wrap64 (2 + (wrap64 (Int.tmod a0_1 8)))), .slice none 0 0, .bool false, .bool false, .bool false, .bool false, .int .i64 0] (0, 0) _ rfl (by (with_reducible repeat (first | refine blk_drewN ?_ _ | refine blk_drew ?_ | refine blk_alloc ?_ _)); refine blk_put (cs := #[.bool true, .int .i64 (wrap64 (2 + (wrap64 (Int.tmod a0_1 8)))), .slice none 0 0, .bool false, .bool false, .bool false, .bool false, .int .i64 0]) ?_ 7 _ rfl; (with_reducible repeat (first | refine blk_drewN ?_ _ | refine blk_drew ?_ | refine blk_alloc ?_ _)); refine blk_put (cs := #[.bool true, .int .i64 (wrap64 (2 + (wrap64 (Int.tmod a0_1 8)))), .slice none 0 0, .bool false, .bool false, .bool false, .bool false, .int .i64 0]) ?_ 6 _ rfl; (with_reducible repeat (first | refine blk_drewN ?_ _ | refine blk_drew ?_ | refine blk_alloc ?_ _)); refine blk_put (cs := #[.bool true, .int .i64 (wrap64 (2 + (wrap64 (Int.tmod a0_1 8)))), .slice none 0 0, .bool false, .bool false, .bool false, .bool false, .int .i64 0]) ?_ 5 _ rfl; (with_reducible repeat (first | refine blk_drewN ?_ _ | refine blk_drew ?_ | refine blk_alloc ?_ _)); refine blk_put (cs := #[.bool true, .int .i64 (wrap64 (2 + (wrap64 (Int.tmod a0_1 8)))), .slice none 0 0, .bool false, .bool false, .bool false, .bool false, .int .i64 0]) ?_ 4 _ rfl; (with_reducible repeat (first | refine blk_drewN ?_ _ | refine blk_drew ?_ | refine blk_alloc ?_ _)); refine blk_put (cs := #[.bool true, .int .i64 (wrap64 (2 + (wrap64 (Int.tmod a0_1 8)))), .slice none 0 0, .bool false, .bool false, .bool false, .bool false, .int .i64 0]) ?_ 3 _ rfl; (with_reducible repeat (first | refine blk_drewN ?_ _ | refine blk_drew ?_ | refine blk_alloc ?_ _)); refine blk_put (cs := #[.bool true, .int .i64 (wrap64 (2 + (wrap64 (Int.tmod a0_1 8)))), .slice none 0 0, .bool false, .bool false, .bool false, .bool false, .int .i64 0]) ?_ 2 _ rfl; (with_reducible repeat (first | refine blk_drewN ?_ _ | refine blk_drew ?_ | refine blk_alloc ?_ _)); refine blk_put (cs := #[.bool true, .int .i64 0, .slice none 0 0, .bool false, .bool false, .bool false, .bool false, .int .i64 0]) ?_ 1 _ rfl; (with_reducible repeat (first | refine blk_drewN ?_ _ | refine blk_drew ?_ | refine blk_alloc ?_ _)); refine blk_put (cs := #[.bool false, .int .i64 0, .slice none 0 0, .bool false, .bool false, .bool false, .bool false, .int .i64 0]) ?_ 0 _ rfl; (with_reducible repeat (first | refine blk_drewN ?_ _ | refine blk_drew ?_ | refine blk_alloc ?_ _)); refine blk_far ?_ NB188_189.out _; (with_reducible repeat (first | refine blk_drewN ?_ _ | refine blk_drew ?_ | refine blk_alloc ?_ _)); refine blk_far ?_ NB188_189.out _; (with_reducible repeat (first | refine blk_drewN ?_ _ | refine blk_drew ?_ | refine blk_alloc ?_ _)); exact BK188.out) Try.underlying38 rfl (by kernel_rfl)) rfl ?_
                          exact ⟨_, by first | rfl | (simp [errW_none, errW_some] <;> rfl) | (simp [*, errW_none, errW_some] <;> rfl), by first | exact Kd.R_nil _ _ _ _ _ | exact Kd.N_nil _ _ _ _ _ | exact Kd.V_nil _ _ _ _ _ | exact Kd.Q_nil _ _ _ _ _ | exact Kd.S_nil _ _ _ _ _, by repeat (first | (with_reducible first | exact HB.out | apply below_alloc | apply pw_below_drewN | apply below_drew1 | refine below_set ?_ GE187.out | refine below_set ?_ GE188.out | refine below_set ?_ GE189.out) | exact HB.out)⟩
                        · rw [if_neg c70] at H
                          have c70b0 : ((Int.tmod a0_0 16) == 9) = false := beq_eq_false_iff_ne.mpr c70
                          have c70b1 : ((Int.tmod a0_0 16) != 9) = true := bne_iff_ne.mpr c70
                          simp only [Option.some.injEq, Prod.mk.injEq] at H
                          obtain ⟨rfl, rfl, rfl, rfl, rfl, rfl, rfl, rfl⟩ := H
                          have hnb77 := NB189_187.out
                          have hnc77 := NB187_189.out
                          have hnb78 := NB189_188.out
                          have hnc78 := NB188_189.out
                          have hcz79_0 : wc.cell? ⟨gb189, 0, none⟩ = some (.bool false) := (blk_cell BK189.out 0).trans rfl
                          have hcz79_1 : wc.cell? ⟨gb189, 1, none⟩ = some (.int .i64 0) := (blk_cell BK189.out 1).trans rfl
                          have hcz79_2 : wc.cell? ⟨gb189, 2, none⟩ = some (.slice none 0 0) := (blk_cell BK189.out 2).trans rfl
                          have hcz79_3 : wc.cell? ⟨gb189, 3, none⟩ = some (.bool false) := (blk_cell BK189.out 3).trans rfl
                          have hcz79_4 : wc.cell? ⟨gb189, 4, none⟩ = some (.bool false) := (blk_cell BK189.out 4).trans rfl
                          have hcz79_5 : wc.cell? ⟨gb189, 5, none⟩ = some (.bool false) := (blk_cell BK189.out 5).trans rfl
                          have hcz79_6 : wc.cell? ⟨gb189, 6, none⟩ = some (.bool false) := (blk_cell BK189.out 6).trans rfl
                          have hcz79_7 : wc.cell? ⟨gb189, 7, none⟩ = some (.int .i64 0) := (blk_cell BK189.out 7).trans rfl
                          have hfz79_0 := blk_frozen BK189.out 0
                          have hfz79_1 := blk_frozen BK189.out 1
                          have hfz79_2 := blk_frozen BK189.out 2
                          have hfz79_3 := blk_frozen BK189.out 3
                          have hfz79_4 := blk_frozen BK189.out 4
                          have hfz79_5 := blk_frozen BK189.out 5
                          have hfz79_6 := blk_frozen BK189.out 6
                          have hfz79_7 := blk_frozen BK189.out 7
                          have hnb80 := NB188_187.out
                          have hnc80 := NB187_188.out
                          have hcz81_0 : wc.cell? ⟨gb188, 0, none⟩ = some (.bool false) := (blk_cell BK188.out 0).trans rfl
                          have hcz81_1 : wc.cell? ⟨gb188, 1, none⟩ = some (.int .i64 0) := (blk_cell BK188.out 1).trans rfl
                          have hcz81_2 : wc.cell? ⟨gb188, 2, none⟩ = some (.slice none 0 0) := (blk_cell BK188.out 2).trans rfl
                          have hcz81_3 : wc.cell? ⟨gb188, 3, none⟩ = some (.bool false) := (blk_cell BK188.out 3).trans rfl
                          have hcz81_4 : wc.cell? ⟨gb188, 4, none⟩ = some (.bool false) := (blk_cell BK188.out 4).trans rfl
                          have hcz81_5 : wc.cell? ⟨gb188, 5, none⟩ = some (.bool false) := (blk_cell BK188.out 5).trans rfl
                          have hcz81_6 : wc.cell? ⟨gb188, 6, none⟩ = some (.bool false) := (blk_cell BK188.out 6).trans rfl
                          have hcz81_7 : wc.cell? ⟨gb188, 7, none⟩ = some (.int .i64 0) := (blk_cell BK188.out 7).trans rfl
                          have hfz81_0 := blk_frozen BK188.out 0
                          have hfz81_1 := blk_frozen BK188.out 1
                          have hfz81_2 := blk_frozen BK188.out 2
                          have hfz81_3 := blk_frozen BK188.out 3
                          have hfz81_4 := blk_frozen BK188.out 4
                          have hfz81_5 := blk_frozen BK188.out 5
                          have hfz81_6 := blk_frozen BK188.out 6
                          have hfz81_7 := blk_frozen BK188.out 7
                          go_wp2
                          refine bodyPost_ret (results_cell_row rfl _ _ gb188 38 #[.bool false, .int .i64 0, .slice none 0 0, .bool false, .bool false, .bool false, .bool false, .int .i64 0] (0, 0) _ rfl (by (with_reducible repeat (first | refine blk_drewN ?_ _ | refine blk_drew ?_ | refine blk_alloc ?_ _)); refine blk_put (cs := #[.bool false, .int .i64 0, .slice none 0 0, .bool false, .bool false, .bool false, .bool false, .int .i64 0]) ?_ 7 _ rfl; (with_reducible repeat (first | refine blk_drewN ?_ _ | refine blk_drew ?_ | refine blk_alloc ?_ _)); refine blk_put (cs := #[.bool false, .int .i64 0, .slice none 0 0, .bool false, .bool false, .bool false, .bool false, .int .i64 0]) ?_ 6 _ rfl; (with_reducible repeat (first | refine blk_drewN ?_ _ | refine blk_drew ?_ | refine blk_alloc ?_ _)); refine blk_put (cs := #[.bool false, .int .i64 0, .slice none 0 0, .bool false, .bool false, .bool false, .bool false, .int .i64 0]) ?_ 5 _ rfl; (with_reducible repeat (first | refine blk_drewN ?_ _ | refine blk_drew ?_ | refine blk_alloc ?_ _)); refine blk_put (cs := #[.bool false, .int .i64 0, .slice none 0 0, .bool false, .bool false, .bool false, .bool false, .int .i64 0]) ?_ 4 _ rfl; (with_reducible repeat (first | refine blk_drewN ?_ _ | refine blk_drew ?_ | refine blk_alloc ?_ _)); refine blk_put (cs := #[.bool false, .int .i64 0, .slice none 0 0, .bool false, .bool false, .bool false, .bool false, .int .i64 0]) ?_ 3 _ rfl; (with_reducible repeat (first | refine blk_drewN ?_ _ | refine blk_drew ?_ | refine blk_alloc ?_ _)); refine blk_put (cs := #[.bool false, .int .i64 0, .slice none 0 0, .bool false, .bool false, .bool false, .bool false, .int .i64 0]) ?_ 2 _ rfl; (with_reducible repeat (first | refine blk_drewN ?_ _ | refine blk_drew ?_ | refine blk_alloc ?_ _)); refine blk_put (cs := #[.bool false, .int .i64 0, .slice none 0 0, .bool false, .bool false, .bool false, .bool false, .int .i64 0]) ?_ 1 _ rfl; (with_reducible repeat (first | refine blk_drewN ?_ _ | refine blk_drew ?_ | refine blk_alloc ?_ _)); refine blk_put (cs := #[.bool false, .int .i64 0, .slice none 0 0, .bool false, .bool false, .bool false, .bool false, .int .i64 0]) ?_ 0 _ rfl; (with_reducible repeat (first | refine blk_drewN ?_ _ | refine blk_drew ?_ | refine blk_alloc ?_ _)); exact BK188.out) Try.underlying38 rfl (by kernel_rfl)) rfl ?_
                          exact ⟨_, by first | rfl | (simp [errW_none, errW_some] <;> rfl) | (simp [*, errW_none, errW_some] <;> rfl), by first | exact Kd.R_nil _ _ _ _ _ | exact Kd.N_nil _ _ _ _ _ | exact Kd.V_nil _ _ _ _ _ | exact Kd.Q_nil _ _ _ _ _ | exact Kd.S_nil _ _ _ _ _, by repeat (first | (with_reducible first | exact HB.out | apply below_alloc | apply pw_below_drewN | apply below_drew1 | refine below_set ?_ GE187.out | refine below_set ?_ GE188.out | refine below_set ?_ GE189.out) | exact HB.out)⟩

end Go.Proofs.Ytendmmagjjhfnaa.M
