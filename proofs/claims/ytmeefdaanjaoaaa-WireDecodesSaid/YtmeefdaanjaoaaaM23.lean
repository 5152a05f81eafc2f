/- Printed by a program of this session (wip/tools), out of the translation: functions with the same answers as the Go code, and the contracts of the code. Lean checks it. -/
import Derived.Test.YtmeefdaanjaoaaaM0
namespace Go.Proofs.Ytmeefdaanjaoaaa.M
open Go.RowKit Go.Proofs.YtmeefdaanjaoaaaW.PrintWords Go.Proofs.YtmeefdaanjaoaaaW.PrintLast Go.Proofs.YtmeefdaanjaoaaaW.PrintMore
attribute [local go_sem] max2_int min2_int max_two min_two max_three min_three max_four min_four   -- for this text's walks alone
set_option linter.unusedVariables false
set_option linter.unusedSimpArgs false

/-! ### partitaref15_Right: function 20 -/
mutual
def partitaref15_Right.j0 : Nat → Bool → Int → Int → Int → Int → Int → ByteArray → Option (Bool)
  | 0, _, _, _, _, _, _, _ => none
  | k + 1, x36, x294000, x294001, x294002, x294003, x294004, x294005 => if x36 = true then (some false) else (if x294001 < 8 then (partitaref15_Right.j1 k true x294000 x294001 x294002 x294003 x294004 x294005) else (partitaref15_Right.j1 k (decide (x294001 > 16)) x294000 x294001 x294002 x294003 x294004 x294005))
def partitaref15_Right.j1 : Nat → Bool → Int → Int → Int → Int → Int → ByteArray → Option (Bool)
  | 0, _, _, _, _, _, _, _ => none
  | k + 1, x44, x294000, x294001, x294002, x294003, x294004, x294005 => if x44 = true then (some false) else (if x294001 = 15 then (if x294003 = 240 then (if x294002 = 0 then (some (x294004 == 0)) else (some false)) else (if x294003 = 247 then (if x294002 = 0 then (some (x294004 == 0)) else (some false)) else (some false))) else (if x294003 < 0 then (partitaref15_Right.j2 k true x294000 x294001 x294002 x294003 x294004 x294005) else (partitaref15_Right.j2 k (decide (x294003 > 127)) x294000 x294001 x294002 x294003 x294004 x294005)))
def partitaref15_Right.j2 : Nat → Bool → Int → Int → Int → Int → Int → ByteArray → Option (Bool)
  | 0, _, _, _, _, _, _, _ => none
  | k + 1, x73, x294000, x294001, x294002, x294003, x294004, x294005 => if x73 = true then (some false) else (if x294001 = 16 then (if x294002 = 0 then (some (x294004 == 0)) else (some false)) else (if (x294005.size : Int) = 0 then (if x294004 = 0 then (some true) else (if x294001 = 12 then (some false) else (some (x294001 != 13)))) else (some false)))
end
def partitaref15_Right.f (k : Nat) (a0_0 : Int) (a0_1 : Int) (a0_2 : Int) (a0_3 : Int) (a0_4 : Int) (a0_5 : ByteArray) : Option (Bool) := if a0_0 < 0 then (partitaref15_Right.j0 k true a0_0 a0_1 a0_2 a0_3 a0_4 a0_5) else (if a0_0 > 268435455 then (partitaref15_Right.j0 k true a0_0 a0_1 a0_2 a0_3 a0_4 a0_5) else (if (a0_5.size : Int) > 100000 then (partitaref15_Right.j0 k true a0_0 a0_1 a0_2 a0_3 a0_4 a0_5) else (if a0_2 < 0 then (partitaref15_Right.j0 k true a0_0 a0_1 a0_2 a0_3 a0_4 a0_5) else (if a0_2 > 15 then (partitaref15_Right.j0 k true a0_0 a0_1 a0_2 a0_3 a0_4 a0_5) else (if a0_4 < 0 then (partitaref15_Right.j0 k true a0_0 a0_1 a0_2 a0_3 a0_4 a0_5) else (partitaref15_Right.j0 k (decide (a0_4 > 127)) a0_0 a0_1 a0_2 a0_3 a0_4 a0_5))))))
theorem partitaref15_Right.mono_l : ∀ k, (∀ y0 y1 y2 y3 y4 y5 y6, LeO (partitaref15_Right.j0 k y0 y1 y2 y3 y4 y5 y6) (partitaref15_Right.j0 (k + 1) y0 y1 y2 y3 y4 y5 y6)) ∧ (∀ y0 y1 y2 y3 y4 y5 y6, LeO (partitaref15_Right.j1 k y0 y1 y2 y3 y4 y5 y6) (partitaref15_Right.j1 (k + 1) y0 y1 y2 y3 y4 y5 y6)) ∧ (∀ y0 y1 y2 y3 y4 y5 y6, LeO (partitaref15_Right.j2 k y0 y1 y2 y3 y4 y5 y6) (partitaref15_Right.j2 (k + 1) y0 y1 y2 y3 y4 y5 y6))
  | 0 => ⟨fun _ _ _ _ _ _ _ r h => by simp [partitaref15_Right.j0] at h, fun _ _ _ _ _ _ _ r h => by simp [partitaref15_Right.j1] at h, fun _ _ _ _ _ _ _ r h => by simp [partitaref15_Right.j2] at h⟩
  | k + 1 => by
    obtain ⟨ih0, ih1, ih2⟩ := partitaref15_Right.mono_l k
    refine ⟨?_, ?_, ?_⟩
    · intro y0 y1 y2 y3 y4 y5 y6
      unfold partitaref15_Right.j0
      repeat' first
      | (with_reducible exact ih0 _ _ _ _ _ _ _)
      | (with_reducible exact ih1 _ _ _ _ _ _ _)
      | (with_reducible exact ih2 _ _ _ _ _ _ _)
      | (with_reducible exact LeO.refl _)
      | (with_reducible exact LeO.none _)
      | (with_reducible refine LeO.ite ?_ ?_)
      | (with_reducible refine LeO.bind ?_ (fun _ => ?_))
      | exact ih0 _ _ _ _ _ _ _
      | exact ih1 _ _ _ _ _ _ _
      | exact ih2 _ _ _ _ _ _ _
      | exact LeO.none _
      | refine LeO.ite ?_ ?_
      | refine LeO.bind ?_ (fun _ => ?_)
    · intro y0 y1 y2 y3 y4 y5 y6
      unfold partitaref15_Right.j1
      repeat' first
      | (with_reducible exact ih0 _ _ _ _ _ _ _)
      | (with_reducible exact ih1 _ _ _ _ _ _ _)
      | (with_reducible exact ih2 _ _ _ _ _ _ _)
      | (with_reducible exact LeO.refl _)
      | (with_reducible exact LeO.none _)
      | (with_reducible refine LeO.ite ?_ ?_)
      | (with_reducible refine LeO.bind ?_ (fun _ => ?_))
      | exact ih0 _ _ _ _ _ _ _
      | exact ih1 _ _ _ _ _ _ _
      | exact ih2 _ _ _ _ _ _ _
      | exact LeO.none _
      | refine LeO.ite ?_ ?_
      | refine LeO.bind ?_ (fun _ => ?_)
    · intro y0 y1 y2 y3 y4 y5 y6
      unfold partitaref15_Right.j2
      repeat' first
      | (with_reducible exact ih0 _ _ _ _ _ _ _)
      | (with_reducible exact ih1 _ _ _ _ _ _ _)
      | (with_reducible exact ih2 _ _ _ _ _ _ _)
      | (with_reducible exact LeO.refl _)
      | (with_reducible exact LeO.none _)
      | (with_reducible refine LeO.ite ?_ ?_)
      | (with_reducible refine LeO.bind ?_ (fun _ => ?_))
      | exact ih0 _ _ _ _ _ _ _
      | exact ih1 _ _ _ _ _ _ _
      | exact ih2 _ _ _ _ _ _ _
      | exact LeO.none _
      | refine LeO.ite ?_ ?_
      | refine LeO.bind ?_ (fun _ => ?_)
theorem partitaref15_Right.mono : ∀ a0 a1 a2 a3 a4 a5 k, LeO (partitaref15_Right.f k a0 a1 a2 a3 a4 a5) (partitaref15_Right.f (k + 1) a0 a1 a2 a3 a4 a5) := by
  intro a0 a1 a2 a3 a4 a5 k
  obtain ⟨ih0, ih1, ih2⟩ := partitaref15_Right.mono_l k
  unfold partitaref15_Right.f
  repeat' first
      | (with_reducible exact ih0 _ _ _ _ _ _ _)
      | (with_reducible exact ih1 _ _ _ _ _ _ _)
      | (with_reducible exact ih2 _ _ _ _ _ _ _)
      | (with_reducible exact LeO.refl _)
      | (with_reducible exact LeO.none _)
      | (with_reducible refine LeO.ite ?_ ?_)
      | (with_reducible refine LeO.bind ?_ (fun _ => ?_))
      | exact ih0 _ _ _ _ _ _ _
      | exact ih1 _ _ _ _ _ _ _
      | exact ih2 _ _ _ _ _ _ _
      | exact LeO.none _
      | refine LeO.ite ?_ ?_
      | refine LeO.bind ?_ (fun _ => ?_)
set_option maxHeartbeats 8000000 in
set_option maxRecDepth 100000 in
theorem partitaref15_Right.calls (k : Nat) (a0_0 : Int) (a0_1 : Int) (a0_2 : Int) (a0_3 : Int) (a0_4 : Int) (a0_5 : ByteArray) (r : Bool) (w : World) (h : partitaref15_Right.f k a0_0 a0_1 a0_2 a0_3 a0_4 a0_5 = some r) :
    Calls Try.prog 20 #[.agg #[.int .i64 a0_0, .int .i64 a0_1, .int .i64 a0_2, .int .i64 a0_3, .int .i64 a0_4, .string a0_5]] w fun e w' => e = .returned (.bool r) ∧ Below w.heap.size w w' := by
  have hu31 := Try.underlying31
  have HB := Aside0.mk (Below.refl w.heap.size w)
  have H : (if a0_0 < 0 then (partitaref15_Right.j0 k true a0_0 a0_1 a0_2 a0_3 a0_4 a0_5) else (if a0_0 > 268435455 then (partitaref15_Right.j0 k true a0_0 a0_1 a0_2 a0_3 a0_4 a0_5) else (if (a0_5.size : Int) > 100000 then (partitaref15_Right.j0 k true a0_0 a0_1 a0_2 a0_3 a0_4 a0_5) else (if a0_2 < 0 then (partitaref15_Right.j0 k true a0_0 a0_1 a0_2 a0_3 a0_4 a0_5) else (if a0_2 > 15 then (partitaref15_Right.j0 k true a0_0 a0_1 a0_2 a0_3 a0_4 a0_5) else (if a0_4 < 0 then (partitaref15_Right.j0 k true a0_0 a0_1 a0_2 a0_3 a0_4 a0_5) else (partitaref15_Right.j0 k (decide (a0_4 > 127)) a0_0 a0_1 a0_2 a0_3 a0_4 a0_5))))))) = some r := h
  clear h
  have HC2 := Aside0.mk H
  clear H
  go_enter Try.func20, Try.ntmps20
  go_upto_region 1 with (first | ((with_reducible refine gate_dst (N := 1) rfl ?_); (try (refine gate_guard (by rfl) ?_; dsimp only)); refine box_event ?hg (N := 1) ?hd (cs := #[.int .i64 a0_0, .int .i64 a0_1, .int .i64 a0_2, .int .i64 a0_3, .int .i64 a0_4, .string a0_5]) (t := 31) ?hr ?_; (case hd => rfl); (case hg => rfl); (case hr => first | (go_simp; done) | (go_simp; rfl)); intro gb293 hg w3 hbox hb; have n0_ := Aside0.mk (below_step (by repeat (first | (with_reducible first | exact HB.out | apply below_alloc | apply pw_below_drewN | apply below_drew1) | exact HB.out)) hb); have n1_ := Aside0.mk (hbox); have n2_ := Aside0.mk ((by rw [hg]; exact (below_size (by repeat (first | (with_reducible first | exact HB.out | apply below_alloc | apply pw_below_drewN | apply below_drew1) | exact HB.out))) : w.heap.size ≤ gb293)); have n3_ := Aside0.mk ((by rw [hg]; exact (below_size (by repeat (first | (with_reducible first | exact HB.out | apply below_alloc | apply pw_below_drewN | apply below_drew1) | exact HB.out))) : w.heap.size ≤ gb293)); clear HB; have HB := n0_; have BK293 := n1_; have GW293 := n2_; have GE293 := n3_; clear n0_ n1_ n2_ n3_; clear hb hbox hg))
  (try simp only [Act.put, List.setIfInBounds_toArray, List.set_cons_zero, List.set_cons_succ])
  go_cut [36] (fun v36 wc => ∃ (kq : Nat) (x36_1 : Bool), v36 = .bool x36_1 ∧ Aside0 (partitaref15_Right.j0 kq x36_1 a0_0 a0_1 a0_2 a0_3 a0_4 a0_5 = some r) ∧ Aside0 (kq ≤ k) ∧ Aside0 (wc.heap[gb293]? = some (.cells #[.int .i64 a0_0, .int .i64 a0_1, .int .i64 a0_2, .int .i64 a0_3, .int .i64 a0_4, .string a0_5] 31 (0, 0))) ∧ Aside0 (Below w.heap.size w wc))
  case first =>
    have H := HC2.out
    clear HC2
    by_cases c4 : a0_0 < 0
    · rw [if_pos c4] at H
      have c4b0 : decide (a0_0 < 0) = true := decide_eq_true c4
      clear c4
      (first | rw [c4b0] | (simp only [i64_w, i32_w]; rw [c4b0]) | skip)
      have H' := Aside0.mk H
      clear H
      have hcz5_0 : w3.cell? ⟨gb293, 0, none⟩ = some (.int .i64 a0_0) := (blk_cell BK293.out 0).trans rfl
      have hcz5_1 : w3.cell? ⟨gb293, 1, none⟩ = some (.int .i64 a0_1) := (blk_cell BK293.out 1).trans rfl
      have hcz5_2 : w3.cell? ⟨gb293, 2, none⟩ = some (.int .i64 a0_2) := (blk_cell BK293.out 2).trans rfl
      have hcz5_3 : w3.cell? ⟨gb293, 3, none⟩ = some (.int .i64 a0_3) := (blk_cell BK293.out 3).trans rfl
      have hcz5_4 : w3.cell? ⟨gb293, 4, none⟩ = some (.int .i64 a0_4) := (blk_cell BK293.out 4).trans rfl
      have hcz5_5 : w3.cell? ⟨gb293, 5, none⟩ = some (.string a0_5) := (blk_cell BK293.out 5).trans rfl
      have hfz5_0 := blk_frozen BK293.out 0
      have hfz5_1 := blk_frozen BK293.out 1
      have hfz5_2 := blk_frozen BK293.out 2
      have hfz5_3 := blk_frozen BK293.out 3
      have hfz5_4 := blk_frozen BK293.out 4
      have hfz5_5 := blk_frozen BK293.out 5
      go_wp2
      go_meet
      case rel => exact ⟨_, (true), (by first | rfl | (simp; done) | (simp [*]; done)), H', ⟨by first | omega | exact Nat.le_refl _⟩, ⟨by (with_reducible repeat (first | refine blk_drewN ?_ _ | refine blk_drew ?_ | refine blk_alloc ?_ _)); exact BK293.out⟩, ⟨by repeat (first | (with_reducible first | exact HB.out | apply below_alloc | apply pw_below_drewN | apply below_drew1 | refine below_set ?_ GE293.out) | exact HB.out)⟩⟩
    · rw [if_neg c4] at H
      have c4b0 : decide (a0_0 < 0) = false := decide_eq_false c4
      clear c4
      (first | rw [c4b0] | (simp only [i64_w, i32_w]; rw [c4b0]) | skip)
      by_cases c6 : a0_0 > 268435455
      · rw [if_pos c6] at H
        have c6b0 : decide (268435455 < a0_0) = true := decide_eq_true c6
        clear c6
        have H' := Aside0.mk H
        clear H
        have hcz7_0 : w3.cell? ⟨gb293, 0, none⟩ = some (.int .i64 a0_0) := (blk_cell BK293.out 0).trans rfl
        have hcz7_1 : w3.cell? ⟨gb293, 1, none⟩ = some (.int .i64 a0_1) := (blk_cell BK293.out 1).trans rfl
        have hcz7_2 : w3.cell? ⟨gb293, 2, none⟩ = some (.int .i64 a0_2) := (blk_cell BK293.out 2).trans rfl
        have hcz7_3 : w3.cell? ⟨gb293, 3, none⟩ = some (.int .i64 a0_3) := (blk_cell BK293.out 3).trans rfl
        have hcz7_4 : w3.cell? ⟨gb293, 4, none⟩ = some (.int .i64 a0_4) := (blk_cell BK293.out 4).trans rfl
        have hcz7_5 : w3.cell? ⟨gb293, 5, none⟩ = some (.string a0_5) := (blk_cell BK293.out 5).trans rfl
        have hfz7_0 := blk_frozen BK293.out 0
        have hfz7_1 := blk_frozen BK293.out 1
        have hfz7_2 := blk_frozen BK293.out 2
        have hfz7_3 := blk_frozen BK293.out 3
        have hfz7_4 := blk_frozen BK293.out 4
        have hfz7_5 := blk_frozen BK293.out 5
        go_wp2
        go_meet
        case rel => exact ⟨_, (true), (by first | rfl | (simp; done) | (simp [*]; done)), H', ⟨by first | omega | exact Nat.le_refl _⟩, ⟨by (with_reducible repeat (first | refine blk_drewN ?_ _ | refine blk_drew ?_ | refine blk_alloc ?_ _)); exact BK293.out⟩, ⟨by repeat (first | (with_reducible first | exact HB.out | apply below_alloc | apply pw_below_drewN | apply below_drew1 | refine below_set ?_ GE293.out) | exact HB.out)⟩⟩
      · rw [if_neg c6] at H
        have c6b0 : decide (268435455 < a0_0) = false := decide_eq_false c6
        clear c6
        by_cases c8 : (a0_5.size : Int) > 100000
        · rw [if_pos c8] at H
          have c8b0 : decide (100000 < (a0_5.size : Int)) = true := decide_eq_true c8
          have c8b1 : decide (100000 < a0_5.size) = true := decide_eq_true (by omega)
          clear c8
          have H' := Aside0.mk H
          clear H
          have hcz9_0 : w3.cell? ⟨gb293, 0, none⟩ = some (.int .i64 a0_0) := (blk_cell BK293.out 0).trans rfl
          have hcz9_1 : w3.cell? ⟨gb293, 1, none⟩ = some (.int .i64 a0_1) := (blk_cell BK293.out 1).trans rfl
          have hcz9_2 : w3.cell? ⟨gb293, 2, none⟩ = some (.int .i64 a0_2) := (blk_cell BK293.out 2).trans rfl
          have hcz9_3 : w3.cell? ⟨gb293, 3, none⟩ = some (.int .i64 a0_3) := (blk_cell BK293.out 3).trans rfl
          have hcz9_4 : w3.cell? ⟨gb293, 4, none⟩ = some (.int .i64 a0_4) := (blk_cell BK293.out 4).trans rfl
          have hcz9_5 : w3.cell? ⟨gb293, 5, none⟩ = some (.string a0_5) := (blk_cell BK293.out 5).trans rfl
          have hfz9_0 := blk_frozen BK293.out 0
          have hfz9_1 := blk_frozen BK293.out 1
          have hfz9_2 := blk_frozen BK293.out 2
          have hfz9_3 := blk_frozen BK293.out 3
          have hfz9_4 := blk_frozen BK293.out 4
          have hfz9_5 := blk_frozen BK293.out 5
          go_wp2
          go_meet
          case rel => exact ⟨_, (true), (by first | rfl | (simp; done) | (simp [*]; done)), H', ⟨by first | omega | exact Nat.le_refl _⟩, ⟨by (with_reducible repeat (first | refine blk_drewN ?_ _ | refine blk_drew ?_ | refine blk_alloc ?_ _)); exact BK293.out⟩, ⟨by repeat (first | (with_reducible first | exact HB.out | apply below_alloc | apply pw_below_drewN | apply below_drew1 | refine below_set ?_ GE293.out) | exact HB.out)⟩⟩
        · rw [if_neg c8] at H
          have c8b0 : decide (100000 < (a0_5.size : Int)) = false := decide_eq_false c8
          have c8b1 : decide (100000 < a0_5.size) = false := decide_eq_false (by omega)
          clear c8
          by_cases c10 : a0_2 < 0
          · rw [if_pos c10] at H
            have c10b0 : decide (a0_2 < 0) = true := decide_eq_true c10
            clear c10
            have H' := Aside0.mk H
            clear H
            have hcz11_0 : w3.cell? ⟨gb293, 0, none⟩ = some (.int .i64 a0_0) := (blk_cell BK293.out 0).trans rfl
            have hcz11_1 : w3.cell? ⟨gb293, 1, none⟩ = some (.int .i64 a0_1) := (blk_cell BK293.out 1).trans rfl
            have hcz11_2 : w3.cell? ⟨gb293, 2, none⟩ = some (.int .i64 a0_2) := (blk_cell BK293.out 2).trans rfl
            have hcz11_3 : w3.cell? ⟨gb293, 3, none⟩ = some (.int .i64 a0_3) := (blk_cell BK293.out 3).trans rfl
            have hcz11_4 : w3.cell? ⟨gb293, 4, none⟩ = some (.int .i64 a0_4) := (blk_cell BK293.out 4).trans rfl
            have hcz11_5 : w3.cell? ⟨gb293, 5, none⟩ = some (.string a0_5) := (blk_cell BK293.out 5).trans rfl
            have hfz11_0 := blk_frozen BK293.out 0
            have hfz11_1 := blk_frozen BK293.out 1
            have hfz11_2 := blk_frozen BK293.out 2
            have hfz11_3 := blk_frozen BK293.out 3
            have hfz11_4 := blk_frozen BK293.out 4
            have hfz11_5 := blk_frozen BK293.out 5
            go_wp2
            go_meet
            case rel => exact ⟨_, (true), (by first | rfl | (simp; done) | (simp [*]; done)), H', ⟨by first | omega | exact Nat.le_refl _⟩, ⟨by (with_reducible repeat (first | refine blk_drewN ?_ _ | refine blk_drew ?_ | refine blk_alloc ?_ _)); exact BK293.out⟩, ⟨by repeat (first | (with_reducible first | exact HB.out | apply below_alloc | apply pw_below_drewN | apply below_drew1 | refine below_set ?_ GE293.out) | exact HB.out)⟩⟩
          · rw [if_neg c10] at H
            have c10b0 : decide (a0_2 < 0) = false := decide_eq_false c10
            clear c10
            by_cases c12 : a0_2 > 15
            · rw [if_pos c12] at H
              have c12b0 : decide (15 < a0_2) = true := decide_eq_true c12
              clear c12
              have H' := Aside0.mk H
              clear H
              have hcz13_0 : w3.cell? ⟨gb293, 0, none⟩ = some (.int .i64 a0_0) := (blk_cell BK293.out 0).trans rfl
              have hcz13_1 : w3.cell? ⟨gb293, 1, none⟩ = some (.int .i64 a0_1) := (blk_cell BK293.out 1).trans rfl
              have hcz13_2 : w3.cell? ⟨gb293, 2, none⟩ = some (.int .i64 a0_2) := (blk_cell BK293.out 2).trans rfl
              have hcz13_3 : w3.cell? ⟨gb293, 3, none⟩ = some (.int .i64 a0_3) := (blk_cell BK293.out 3).trans rfl
              have hcz13_4 : w3.cell? ⟨gb293, 4, none⟩ = some (.int .i64 a0_4) := (blk_cell BK293.out 4).trans rfl
              have hcz13_5 : w3.cell? ⟨gb293, 5, none⟩ = some (.string a0_5) := (blk_cell BK293.out 5).trans rfl
              have hfz13_0 := blk_frozen BK293.out 0
              have hfz13_1 := blk_frozen BK293.out 1
              have hfz13_2 := blk_frozen BK293.out 2
              have hfz13_3 := blk_frozen BK293.out 3
              have hfz13_4 := blk_frozen BK293.out 4
              have hfz13_5 := blk_frozen BK293.out 5
              go_wp2
              go_meet
              case rel => exact ⟨_, (true), (by first | rfl | (simp; done) | (simp [*]; done)), H', ⟨by first | omega | exact Nat.le_refl _⟩, ⟨by (with_reducible repeat (first | refine blk_drewN ?_ _ | refine blk_drew ?_ | refine blk_alloc ?_ _)); exact BK293.out⟩, ⟨by repeat (first | (with_reducible first | exact HB.out | apply below_alloc | apply pw_below_drewN | apply below_drew1 | refine below_set ?_ GE293.out) | exact HB.out)⟩⟩
            · rw [if_neg c12] at H
              have c12b0 : decide (15 < a0_2) = false := decide_eq_false c12
              clear c12
              by_cases c14 : a0_4 < 0
              · rw [if_pos c14] at H
                have c14b0 : decide (a0_4 < 0) = true := decide_eq_true c14
                clear c14
                have H' := Aside0.mk H
                clear H
                have hcz15_0 : w3.cell? ⟨gb293, 0, none⟩ = some (.int .i64 a0_0) := (blk_cell BK293.out 0).trans rfl
                have hcz15_1 : w3.cell? ⟨gb293, 1, none⟩ = some (.int .i64 a0_1) := (blk_cell BK293.out 1).trans rfl
                have hcz15_2 : w3.cell? ⟨gb293, 2, none⟩ = some (.int .i64 a0_2) := (blk_cell BK293.out 2).trans rfl
                have hcz15_3 : w3.cell? ⟨gb293, 3, none⟩ = some (.int .i64 a0_3) := (blk_cell BK293.out 3).trans rfl
                have hcz15_4 : w3.cell? ⟨gb293, 4, none⟩ = some (.int .i64 a0_4) := (blk_cell BK293.out 4).trans rfl
                have hcz15_5 : w3.cell? ⟨gb293, 5, none⟩ = some (.string a0_5) := (blk_cell BK293.out 5).trans rfl
                have hfz15_0 := blk_frozen BK293.out 0
                have hfz15_1 := blk_frozen BK293.out 1
                have hfz15_2 := blk_frozen BK293.out 2
                have hfz15_3 := blk_frozen BK293.out 3
                have hfz15_4 := blk_frozen BK293.out 4
                have hfz15_5 := blk_frozen BK293.out 5
                go_wp2
                go_meet
                case rel => exact ⟨_, (true), (by first | rfl | (simp; done) | (simp [*]; done)), H', ⟨by first | omega | exact Nat.le_refl _⟩, ⟨by (with_reducible repeat (first | refine blk_drewN ?_ _ | refine blk_drew ?_ | refine blk_alloc ?_ _)); exact BK293.out⟩, ⟨by repeat (first | (with_reducible first | exact HB.out | apply below_alloc | apply pw_below_drewN | apply below_drew1 | refine below_set ?_ GE293.out) | exact HB.out)⟩⟩
              · rw [if_neg c14] at H
                have c14b0 : decide (a0_4 < 0) = false := decide_eq_false c14
                clear c14
                have H' := Aside0.mk H
                clear H
                have hcz16_0 : w3.cell? ⟨gb293, 0, none⟩ = some (.int .i64 a0_0) := (blk_cell BK293.out 0).trans rfl
                have hcz16_1 : w3.cell? ⟨gb293, 1, none⟩ = some (.int .i64 a0_1) := (blk_cell BK293.out 1).trans rfl
                have hcz16_2 : w3.cell? ⟨gb293, 2, none⟩ = some (.int .i64 a0_2) := (blk_cell BK293.out 2).trans rfl
                have hcz16_3 : w3.cell? ⟨gb293, 3, none⟩ = some (.int .i64 a0_3) := (blk_cell BK293.out 3).trans rfl
                have hcz16_4 : w3.cell? ⟨gb293, 4, none⟩ = some (.int .i64 a0_4) := (blk_cell BK293.out 4).trans rfl
                have hcz16_5 : w3.cell? ⟨gb293, 5, none⟩ = some (.string a0_5) := (blk_cell BK293.out 5).trans rfl
                have hfz16_0 := blk_frozen BK293.out 0
                have hfz16_1 := blk_frozen BK293.out 1
                have hfz16_2 := blk_frozen BK293.out 2
                have hfz16_3 := blk_frozen BK293.out 3
                have hfz16_4 := blk_frozen BK293.out 4
                have hfz16_5 := blk_frozen BK293.out 5
                go_wp2
                go_meet
                case rel => exact ⟨_, (decide (a0_4 > 127)), (by first | rfl | (simp; done) | (simp [*]; done)), H', ⟨by first | omega | exact Nat.le_refl _⟩, ⟨by (with_reducible repeat (first | refine blk_drewN ?_ _ | refine blk_drew ?_ | refine blk_alloc ?_ _)); exact BK293.out⟩, ⟨by repeat (first | (with_reducible first | exact HB.out | apply below_alloc | apply pw_below_drewN | apply below_drew1 | refine below_set ?_ GE293.out) | exact HB.out)⟩⟩
  case rest =>
    clear HC2
    try clear c1
    try clear c2
    try clear p2
    try clear c4
    try clear c4b0
    try clear c6
    try clear c6b0
    try clear c8
    try clear c8b0
    try clear c8b1
    try clear c10
    try clear c10b0
    try clear c12
    try clear c12b0
    try clear c14
    try clear c14b0
    try clear hcz11_0
    try clear hcz11_1
    try clear hcz11_2
    try clear hcz11_3
    try clear hcz11_4
    try clear hcz11_5
    try clear hcz13_0
    try clear hcz13_1
    try clear hcz13_2
    try clear hcz13_3
    try clear hcz13_4
    try clear hcz13_5
    try clear hcz15_0
    try clear hcz15_1
    try clear hcz15_2
    try clear hcz15_3
    try clear hcz15_4
    try clear hcz15_5
    try clear hcz16_0
    try clear hcz16_1
    try clear hcz16_2
    try clear hcz16_3
    try clear hcz16_4
    try clear hcz16_5
    try clear hcz5_0
    try clear hcz5_1
    try clear hcz5_2
    try clear hcz5_3
    try clear hcz5_4
    try clear hcz5_5
    try clear hcz7_0
    try clear hcz7_1
    try clear hcz7_2
    try clear hcz7_3
    try clear hcz7_4
    try clear hcz7_5
    try clear hcz9_0
    try clear hcz9_1
    try clear hcz9_2
    try clear hcz9_3
    try clear hcz9_4
    try clear hcz9_5
    try clear hfz11_0
    try clear hfz11_1
    try clear hfz11_2
    try clear hfz11_3
    try clear hfz11_4
    try clear hfz11_5
    try clear hfz13_0
    try clear hfz13_1
    try clear hfz13_2
    try clear hfz13_3
    try clear hfz13_4
    try clear hfz13_5
    try clear hfz15_0
    try clear hfz15_1
    try clear hfz15_2
    try clear hfz15_3
    try clear hfz15_4
    try clear hfz15_5
    try clear hfz16_0
    try clear hfz16_1
    try clear hfz16_2
    try clear hfz16_3
    try clear hfz16_4
    try clear hfz16_5
    try clear hfz5_0
    try clear hfz5_1
    try clear hfz5_2
    try clear hfz5_3
    try clear hfz5_4
    try clear hfz5_5
    try clear hfz7_0
    try clear hfz7_1
    try clear hfz7_2
    try clear hfz7_3
    try clear hfz7_4
    try clear hfz7_5
    try clear hfz9_0
    try clear hfz9_1
    try clear hfz9_2
    try clear hfz9_3
    try clear hfz9_4
    try clear hfz9_5
    obtain ⟨kq, x36_1, rfl, HA, HJ1, BK293, HB⟩ := hcut
    cases kq with
    | zero => exact absurd HA.out (by simp [partitaref15_Right.j0])
    | succ kj1 =>
      have H := HA.out
      clear HA
      simp only [partitaref15_Right.j0] at H
      by_cases c17 : x36_1 = true
      · subst c17
        have H1 : (some false) = some r := by rw [if_pos rfl] at H; exact H
        clear H
        have H := H1
        clear H1
        obtain rfl := Option.some.inj H
        go_wp2
        go_ret
        exact ⟨by first | rfl | (simp [errW_none, errW_some] <;> rfl) | (simp [*, errW_none, errW_some] <;> rfl), by repeat (first | (with_reducible first | exact HB.out | apply below_alloc | apply pw_below_drewN | apply below_drew1 | refine below_set ?_ GE293.out) | exact HB.out)⟩
      · replace c17 := Bool.eq_false_iff.mpr c17
        subst c17
        have H1 : (if a0_1 < 8 then (partitaref15_Right.j1 kj1 true a0_0 a0_1 a0_2 a0_3 a0_4 a0_5) else (partitaref15_Right.j1 kj1 (decide (a0_1 > 16)) a0_0 a0_1 a0_2 a0_3 a0_4 a0_5)) = some r := by rw [if_neg (show ¬ (false = true) by decide)] at H; exact H
        clear H
        have H := H1
        clear H1
        have HC18 := Aside0.mk H
        clear H
        go_upto_region 3 with (fail)
        go_cut [44] (fun v44 wc => ∃ (kq : Nat) (x44_17 : Bool), v44 = .bool x44_17 ∧ Aside0 (partitaref15_Right.j1 kq x44_17 a0_0 a0_1 a0_2 a0_3 a0_4 a0_5 = some r) ∧ Aside0 (kq ≤ kj1) ∧ Aside0 (wc.heap[gb293]? = some (.cells #[.int .i64 a0_0, .int .i64 a0_1, .int .i64 a0_2, .int .i64 a0_3, .int .i64 a0_4, .string a0_5] 31 (0, 0))) ∧ Aside0 (Below w.heap.size w wc))
        case first =>
          have H := HC18.out
          clear HC18
          by_cases c19 : a0_1 < 8
          · rw [if_pos c19] at H
            have c19b0 : decide (a0_1 < 8) = true := decide_eq_true c19
            clear c19
            (first | rw [c19b0] | (simp only [i64_w, i32_w]; rw [c19b0]) | skip)
            have H' := Aside0.mk H
            clear H
            have hcz20_0 : wc.cell? ⟨gb293, 0, none⟩ = some (.int .i64 a0_0) := (blk_cell BK293.out 0).trans rfl
            have hcz20_1 : wc.cell? ⟨gb293, 1, none⟩ = some (.int .i64 a0_1) := (blk_cell BK293.out 1).trans rfl
            have hcz20_2 : wc.cell? ⟨gb293, 2, none⟩ = some (.int .i64 a0_2) := (blk_cell BK293.out 2).trans rfl
            have hcz20_3 : wc.cell? ⟨gb293, 3, none⟩ = some (.int .i64 a0_3) := (blk_cell BK293.out 3).trans rfl
            have hcz20_4 : wc.cell? ⟨gb293, 4, none⟩ = some (.int .i64 a0_4) := (blk_cell BK293.out 4).trans rfl
            have hcz20_5 : wc.cell? ⟨gb293, 5, none⟩ = some (.string a0_5) := (blk_cell BK293.out 5).trans rfl
            have hfz20_0 := blk_frozen BK293.out 0
            have hfz20_1 := blk_frozen BK293.out 1
            have hfz20_2 := blk_frozen BK293.out 2
            have hfz20_3 := blk_frozen BK293.out 3
            have hfz20_4 := blk_frozen BK293.out 4
            have hfz20_5 := blk_frozen BK293.out 5
            go_wp2
            go_meet
            case rel => exact ⟨_, (true), (by first | rfl | (simp; done) | (simp [*]; done)), H', ⟨by have := HJ1.out; first | omega | exact Nat.le_refl _⟩, ⟨by (with_reducible repeat (first | refine blk_drewN ?_ _ | refine blk_drew ?_ | refine blk_alloc ?_ _)); exact BK293.out⟩, ⟨by repeat (first | (with_reducible first | exact HB.out | apply below_alloc | apply pw_below_drewN | apply below_drew1 | refine below_set ?_ GE293.out) | exact HB.out)⟩⟩
          · rw [if_neg c19] at H
            have c19b0 : decide (a0_1 < 8) = false := decide_eq_false c19
            clear c19
            (first | rw [c19b0] | (simp only [i64_w, i32_w]; rw [c19b0]) | skip)
            have H' := Aside0.mk H
            clear H
            have hcz21_0 : wc.cell? ⟨gb293, 0, none⟩ = some (.int .i64 a0_0) := (blk_cell BK293.out 0).trans rfl
            have hcz21_1 : wc.cell? ⟨gb293, 1, none⟩ = some (.int .i64 a0_1) := (blk_cell BK293.out 1).trans rfl
            have hcz21_2 : wc.cell? ⟨gb293, 2, none⟩ = some (.int .i64 a0_2) := (blk_cell BK293.out 2).trans rfl
            have hcz21_3 : wc.cell? ⟨gb293, 3, none⟩ = some (.int .i64 a0_3) := (blk_cell BK293.out 3).trans rfl
            have hcz21_4 : wc.cell? ⟨gb293, 4, none⟩ = some (.int .i64 a0_4) := (blk_cell BK293.out 4).trans rfl
            have hcz21_5 : wc.cell? ⟨gb293, 5, none⟩ = some (.string a0_5) := (blk_cell BK293.out 5).trans rfl
            have hfz21_0 := blk_frozen BK293.out 0
            have hfz21_1 := blk_frozen BK293.out 1
            have hfz21_2 := blk_frozen BK293.out 2
            have hfz21_3 := blk_frozen BK293.out 3
            have hfz21_4 := blk_frozen BK293.out 4
            have hfz21_5 := blk_frozen BK293.out 5
            go_wp2
            go_meet
            case rel => exact ⟨_, (decide (a0_1 > 16)), (by first | rfl | (simp; done) | (simp [*]; done)), H', ⟨by have := HJ1.out; first | omega | exact Nat.le_refl _⟩, ⟨by (with_reducible repeat (first | refine blk_drewN ?_ _ | refine blk_drew ?_ | refine blk_alloc ?_ _)); exact BK293.out⟩, ⟨by repeat (first | (with_reducible first | exact HB.out | apply below_alloc | apply pw_below_drewN | apply below_drew1 | refine below_set ?_ GE293.out) | exact HB.out)⟩⟩
        case rest =>
          clear HC18
          try clear c1
          try clear c2
          try clear p2
          try clear c4
          try clear c4b0
          try clear c6
          try clear c6b0
          try clear c8
          try clear c8b0
          try clear c8b1
          try clear c10
          try clear c10b0
          try clear c12
          try clear c12b0
          try clear c14
          try clear c14b0
          try clear c17
          try clear c19
          try clear c19b0
          try clear c20
          try clear hcz11_0
          try clear hcz11_1
          try clear hcz11_2
          try clear hcz11_3
          try clear hcz11_4
          try clear hcz11_5
          try clear hcz13_0
          try clear hcz13_1
          try clear hcz13_2
          try clear hcz13_3
          try clear hcz13_4
          try clear hcz13_5
          try clear hcz15_0
          try clear hcz15_1
          try clear hcz15_2
          try clear hcz15_3
          try clear hcz15_4
          try clear hcz15_5
          try clear hcz16_0
          try clear hcz16_1
          try clear hcz16_2
          try clear hcz16_3
          try clear hcz16_4
          try clear hcz16_5
          try clear hcz20_0
          try clear hcz20_1
          try clear hcz20_2
          try clear hcz20_3
          try clear hcz20_4
          try clear hcz20_5
          try clear hcz21_0
          try clear hcz21_1
          try clear hcz21_2
          try clear hcz21_3
          try clear hcz21_4
          try clear hcz21_5
          try clear hcz5_0
          try clear hcz5_1
          try clear hcz5_2
          try clear hcz5_3
          try clear hcz5_4
          try clear hcz5_5
          try clear hcz7_0
          try clear hcz7_1
          try clear hcz7_2
          try clear hcz7_3
          try clear hcz7_4
          try clear hcz7_5
          try clear hcz9_0
          try clear hcz9_1
          try clear hcz9_2
          try clear hcz9_3
          try clear hcz9_4
          try clear hcz9_5
          try clear hfz11_0
          try clear hfz11_1
          try clear hfz11_2
          try clear hfz11_3
          try clear hfz11_4
          try clear hfz11_5
          try clear hfz13_0
          try clear hfz13_1
          try clear hfz13_2
          try clear hfz13_3
          try clear hfz13_4
          try clear hfz13_5
          try clear hfz15_0
          try clear hfz15_1
          try clear hfz15_2
          try clear hfz15_3
          try clear hfz15_4
          try clear hfz15_5
          try clear hfz16_0
          try clear hfz16_1
          try clear hfz16_2
          try clear hfz16_3
          try clear hfz16_4
          try clear hfz16_5
          try clear hfz20_0
          try clear hfz20_1
          try clear hfz20_2
          try clear hfz20_3
          try clear hfz20_4
          try clear hfz20_5
          try clear hfz21_0
          try clear hfz21_1
          try clear hfz21_2
          try clear hfz21_3
          try clear hfz21_4
          try clear hfz21_5
          try clear hfz5_0
          try clear hfz5_1
          try clear hfz5_2
          try clear hfz5_3
          try clear hfz5_4
          try clear hfz5_5
          try clear hfz7_0
          try clear hfz7_1
          try clear hfz7_2
          try clear hfz7_3
          try clear hfz7_4
          try clear hfz7_5
          try clear hfz9_0
          try clear hfz9_1
          try clear hfz9_2
          try clear hfz9_3
          try clear hfz9_4
          try clear hfz9_5
          try clear p2
          obtain ⟨kq, x44_17, rfl, HA, HJ17, BK293, HB⟩ := hcut
          cases kq with
          | zero => exact absurd HA.out (by simp [partitaref15_Right.j1])
          | succ kj17 =>
            have H := HA.out
            clear HA
            simp only [partitaref15_Right.j1] at H
            by_cases c22 : x44_17 = true
            · subst c22
              have H1 : (some false) = some r := by rw [if_pos rfl] at H; exact H
              clear H
              have H := H1
              clear H1
              obtain rfl := Option.some.inj H
              go_wp2
              go_ret
              exact ⟨by first | rfl | (simp [errW_none, errW_some] <;> rfl) | (simp [*, errW_none, errW_some] <;> rfl), by repeat (first | (with_reducible first | exact HB.out | apply below_alloc | apply pw_below_drewN | apply below_drew1 | refine below_set ?_ GE293.out) | exact HB.out)⟩
            · replace c22 := Bool.eq_false_iff.mpr c22
              subst c22
              have H1 : (if a0_1 = 15 then (if a0_3 = 240 then (if a0_2 = 0 then (some (a0_4 == 0)) else (some false)) else (if a0_3 = 247 then (if a0_2 = 0 then (some (a0_4 == 0)) else (some false)) else (some false))) else (if a0_3 < 0 then (partitaref15_Right.j2 kj17 true a0_0 a0_1 a0_2 a0_3 a0_4 a0_5) else (partitaref15_Right.j2 kj17 (decide (a0_3 > 127)) a0_0 a0_1 a0_2 a0_3 a0_4 a0_5))) = some r := by rw [if_neg (show ¬ (false = true) by decide)] at H; exact H
              clear H
              have H := H1
              clear H1
              by_cases c23 : a0_1 = 15
              · rw [if_pos c23] at H
                have c23b0 : (a0_1 == 15) = true := beq_iff_eq.mpr c23
                have c23b1 : (a0_1 != 15) = false := bne_eq_false_iff_eq.mpr c23
                clear c23
                by_cases c24 : a0_3 = 240
                · rw [if_pos c24] at H
                  have c24b0 : (a0_3 == 240) = true := beq_iff_eq.mpr c24
                  have c24b1 : (a0_3 != 240) = false := bne_eq_false_iff_eq.mpr c24
                  clear c24
                  by_cases c25 : a0_2 = 0
                  · rw [if_pos c25] at H
                    have c25b0 : (a0_2 == 0) = true := beq_iff_eq.mpr c25
                    have c25b1 : (a0_2 != 0) = false := bne_eq_false_iff_eq.mpr c25
                    clear c25
                    obtain rfl := Option.some.inj H
                    have hcz26_0 : wc.cell? ⟨gb293, 0, none⟩ = some (.int .i64 a0_0) := (blk_cell BK293.out 0).trans rfl
                    have hcz26_1 : wc.cell? ⟨gb293, 1, none⟩ = some (.int .i64 a0_1) := (blk_cell BK293.out 1).trans rfl
                    have hcz26_2 : wc.cell? ⟨gb293, 2, none⟩ = some (.int .i64 a0_2) := (blk_cell BK293.out 2).trans rfl
                    have hcz26_3 : wc.cell? ⟨gb293, 3, none⟩ = some (.int .i64 a0_3) := (blk_cell BK293.out 3).trans rfl
                    have hcz26_4 : wc.cell? ⟨gb293, 4, none⟩ = some (.int .i64 a0_4) := (blk_cell BK293.out 4).trans rfl
                    have hcz26_5 : wc.cell? ⟨gb293, 5, none⟩ = some (.string a0_5) := (blk_cell BK293.out 5).trans rfl
                    have hfz26_0 := blk_frozen BK293.out 0
                    have hfz26_1 := blk_frozen BK293.out 1
                    have hfz26_2 := blk_frozen BK293.out 2
                    have hfz26_3 := blk_frozen BK293.out 3
                    have hfz26_4 := blk_frozen BK293.out 4
                    have hfz26_5 := blk_frozen BK293.out 5
                    go_wp2
                    go_ret
                    exact ⟨by first | rfl | (simp [errW_none, errW_some] <;> rfl) | (simp [*, errW_none, errW_some] <;> rfl), by repeat (first | (with_reducible first | exact HB.out | apply below_alloc | apply pw_below_drewN | apply below_drew1 | refine below_set ?_ GE293.out) | exact HB.out)⟩
                  · rw [if_neg c25] at H
                    have c25b0 : (a0_2 == 0) = false := beq_eq_false_iff_ne.mpr c25
                    have c25b1 : (a0_2 != 0) = true := bne_iff_ne.mpr c25
                    obtain rfl := Option.some.inj H
                    have hcz27_0 : wc.cell? ⟨gb293, 0, none⟩ = some (.int .i64 a0_0) := (blk_cell BK293.out 0).trans rfl
                    have hcz27_1 : wc.cell? ⟨gb293, 1, none⟩ = some (.int .i64 a0_1) := (blk_cell BK293.out 1).trans rfl
                    have hcz27_2 : wc.cell? ⟨gb293, 2, none⟩ = some (.int .i64 a0_2) := (blk_cell BK293.out 2).trans rfl
                    have hcz27_3 : wc.cell? ⟨gb293, 3, none⟩ = some (.int .i64 a0_3) := (blk_cell BK293.out 3).trans rfl
                    have hcz27_4 : wc.cell? ⟨gb293, 4, none⟩ = some (.int .i64 a0_4) := (blk_cell BK293.out 4).trans rfl
                    have hcz27_5 : wc.cell? ⟨gb293, 5, none⟩ = some (.string a0_5) := (blk_cell BK293.out 5).trans rfl
                    have hfz27_0 := blk_frozen BK293.out 0
                    have hfz27_1 := blk_frozen BK293.out 1
                    have hfz27_2 := blk_frozen BK293.out 2
                    have hfz27_3 := blk_frozen BK293.out 3
                    have hfz27_4 := blk_frozen BK293.out 4
                    have hfz27_5 := blk_frozen BK293.out 5
                    go_wp2
                    go_ret
                    exact ⟨by first | rfl | (simp [errW_none, errW_some] <;> rfl) | (simp [*, errW_none, errW_some] <;> rfl), by repeat (first | (with_reducible first | exact HB.out | apply below_alloc | apply pw_below_drewN | apply below_drew1 | refine below_set ?_ GE293.out) | exact HB.out)⟩
                · rw [if_neg c24] at H
                  have c24b0 : (a0_3 == 240) = false := beq_eq_false_iff_ne.mpr c24
                  have c24b1 : (a0_3 != 240) = true := bne_iff_ne.mpr c24
                  by_cases c28 : a0_3 = 247
                  · rw [if_pos c28] at H
                    have c28b0 : (a0_3 == 247) = true := beq_iff_eq.mpr c28
                    have c28b1 : (a0_3 != 247) = false := bne_eq_false_iff_eq.mpr c28
                    clear c28
                    by_cases c29 : a0_2 = 0
                    · rw [if_pos c29] at H
                      have c29b0 : (a0_2 == 0) = true := beq_iff_eq.mpr c29
                      have c29b1 : (a0_2 != 0) = false := bne_eq_false_iff_eq.mpr c29
                      clear c29
                      obtain rfl := Option.some.inj H
                      have hcz30_0 : wc.cell? ⟨gb293, 0, none⟩ = some (.int .i64 a0_0) := (blk_cell BK293.out 0).trans rfl
                      have hcz30_1 : wc.cell? ⟨gb293, 1, none⟩ = some (.int .i64 a0_1) := (blk_cell BK293.out 1).trans rfl
                      have hcz30_2 : wc.cell? ⟨gb293, 2, none⟩ = some (.int .i64 a0_2) := (blk_cell BK293.out 2).trans rfl
                      have hcz30_3 : wc.cell? ⟨gb293, 3, none⟩ = some (.int .i64 a0_3) := (blk_cell BK293.out 3).trans rfl
                      have hcz30_4 : wc.cell? ⟨gb293, 4, none⟩ = some (.int .i64 a0_4) := (blk_cell BK293.out 4).trans rfl
                      have hcz30_5 : wc.cell? ⟨gb293, 5, none⟩ = some (.string a0_5) := (blk_cell BK293.out 5).trans rfl
                      have hfz30_0 := blk_frozen BK293.out 0
                      have hfz30_1 := blk_frozen BK293.out 1
                      have hfz30_2 := blk_frozen BK293.out 2
                      have hfz30_3 := blk_frozen BK293.out 3
                      have hfz30_4 := blk_frozen BK293.out 4
                      have hfz30_5 := blk_frozen BK293.out 5
                      go_wp2
                      go_ret
                      exact ⟨by first | rfl | (simp [errW_none, errW_some] <;> rfl) | (simp [*, errW_none, errW_some] <;> rfl), by repeat (first | (with_reducible first | exact HB.out | apply below_alloc | apply pw_below_drewN | apply below_drew1 | refine below_set ?_ GE293.out) | exact HB.out)⟩
                    · rw [if_neg c29] at H
                      have c29b0 : (a0_2 == 0) = false := beq_eq_false_iff_ne.mpr c29
                      have c29b1 : (a0_2 != 0) = true := bne_iff_ne.mpr c29
                      obtain rfl := Option.some.inj H
                      have hcz31_0 : wc.cell? ⟨gb293, 0, none⟩ = some (.int .i64 a0_0) := (blk_cell BK293.out 0).trans rfl
                      have hcz31_1 : wc.cell? ⟨gb293, 1, none⟩ = some (.int .i64 a0_1) := (blk_cell BK293.out 1).trans rfl
                      have hcz31_2 : wc.cell? ⟨gb293, 2, none⟩ = some (.int .i64 a0_2) := (blk_cell BK293.out 2).trans rfl
                      have hcz31_3 : wc.cell? ⟨gb293, 3, none⟩ = some (.int .i64 a0_3) := (blk_cell BK293.out 3).trans rfl
                      have hcz31_4 : wc.cell? ⟨gb293, 4, none⟩ = some (.int .i64 a0_4) := (blk_cell BK293.out 4).trans rfl
                      have hcz31_5 : wc.cell? ⟨gb293, 5, none⟩ = some (.string a0_5) := (blk_cell BK293.out 5).trans rfl
                      have hfz31_0 := blk_frozen BK293.out 0
                      have hfz31_1 := blk_frozen BK293.out 1
                      have hfz31_2 := blk_frozen BK293.out 2
                      have hfz31_3 := blk_frozen BK293.out 3
                      have hfz31_4 := blk_frozen BK293.out 4
                      have hfz31_5 := blk_frozen BK293.out 5
                      go_wp2
                      go_ret
                      exact ⟨by first | rfl | (simp [errW_none, errW_some] <;> rfl) | (simp [*, errW_none, errW_some] <;> rfl), by repeat (first | (with_reducible first | exact HB.out | apply below_alloc | apply pw_below_drewN | apply below_drew1 | refine below_set ?_ GE293.out) | exact HB.out)⟩
                  · rw [if_neg c28] at H
                    have c28b0 : (a0_3 == 247) = false := beq_eq_false_iff_ne.mpr c28
                    have c28b1 : (a0_3 != 247) = true := bne_iff_ne.mpr c28
                    obtain rfl := Option.some.inj H
                    have hcz32_0 : wc.cell? ⟨gb293, 0, none⟩ = some (.int .i64 a0_0) := (blk_cell BK293.out 0).trans rfl
                    have hcz32_1 : wc.cell? ⟨gb293, 1, none⟩ = some (.int .i64 a0_1) := (blk_cell BK293.out 1).trans rfl
                    have hcz32_2 : wc.cell? ⟨gb293, 2, none⟩ = some (.int .i64 a0_2) := (blk_cell BK293.out 2).trans rfl
                    have hcz32_3 : wc.cell? ⟨gb293, 3, none⟩ = some (.int .i64 a0_3) := (blk_cell BK293.out 3).trans rfl
                    have hcz32_4 : wc.cell? ⟨gb293, 4, none⟩ = some (.int .i64 a0_4) := (blk_cell BK293.out 4).trans rfl
                    have hcz32_5 : wc.cell? ⟨gb293, 5, none⟩ = some (.string a0_5) := (blk_cell BK293.out 5).trans rfl
                    have hfz32_0 := blk_frozen BK293.out 0
                    have hfz32_1 := blk_frozen BK293.out 1
                    have hfz32_2 := blk_frozen BK293.out 2
                    have hfz32_3 := blk_frozen BK293.out 3
                    have hfz32_4 := blk_frozen BK293.out 4
                    have hfz32_5 := blk_frozen BK293.out 5
                    go_wp2
                    go_ret
                    exact ⟨by first | rfl | (simp [errW_none, errW_some] <;> rfl) | (simp [*, errW_none, errW_some] <;> rfl), by repeat (first | (with_reducible first | exact HB.out | apply below_alloc | apply pw_below_drewN | apply below_drew1 | refine below_set ?_ GE293.out) | exact HB.out)⟩
              · rw [if_neg c23] at H
                have c23b0 : (a0_1 == 15) = false := beq_eq_false_iff_ne.mpr c23
                have c23b1 : (a0_1 != 15) = true := bne_iff_ne.mpr c23
                have HC33 := Aside0.mk H
                clear H
                have hcz34_0 : wc.cell? ⟨gb293, 0, none⟩ = some (.int .i64 a0_0) := (blk_cell BK293.out 0).trans rfl
                have hcz34_1 : wc.cell? ⟨gb293, 1, none⟩ = some (.int .i64 a0_1) := (blk_cell BK293.out 1).trans rfl
                have hcz34_2 : wc.cell? ⟨gb293, 2, none⟩ = some (.int .i64 a0_2) := (blk_cell BK293.out 2).trans rfl
                have hcz34_3 : wc.cell? ⟨gb293, 3, none⟩ = some (.int .i64 a0_3) := (blk_cell BK293.out 3).trans rfl
                have hcz34_4 : wc.cell? ⟨gb293, 4, none⟩ = some (.int .i64 a0_4) := (blk_cell BK293.out 4).trans rfl
                have hcz34_5 : wc.cell? ⟨gb293, 5, none⟩ = some (.string a0_5) := (blk_cell BK293.out 5).trans rfl
                have hfz34_0 := blk_frozen BK293.out 0
                have hfz34_1 := blk_frozen BK293.out 1
                have hfz34_2 := blk_frozen BK293.out 2
                have hfz34_3 := blk_frozen BK293.out 3
                have hfz34_4 := blk_frozen BK293.out 4
                have hfz34_5 := blk_frozen BK293.out 5
                go_upto_region 7 with (fail)
                go_cut [73] (fun v73 wc => ∃ (kq : Nat) (x73_32 : Bool), v73 = .bool x73_32 ∧ Aside0 (partitaref15_Right.j2 kq x73_32 a0_0 a0_1 a0_2 a0_3 a0_4 a0_5 = some r) ∧ Aside0 (kq ≤ kj17) ∧ Aside0 (wc.heap[gb293]? = some (.cells #[.int .i64 a0_0, .int .i64 a0_1, .int .i64 a0_2, .int .i64 a0_3, .int .i64 a0_4, .string a0_5] 31 (0, 0))) ∧ Aside0 (Below w.heap.size w wc))
                case first =>
                  have H := HC33.out
                  clear HC33
                  by_cases c35 : a0_3 < 0
                  · rw [if_pos c35] at H
                    have c35b0 : decide (a0_3 < 0) = true := decide_eq_true c35
                    clear c35
                    (first | rw [c35b0] | (simp only [i64_w, i32_w]; rw [c35b0]) | skip)
                    have H' := Aside0.mk H
                    clear H
                    have hcz36_0 : wc.cell? ⟨gb293, 0, none⟩ = some (.int .i64 a0_0) := (blk_cell BK293.out 0).trans rfl
                    have hcz36_1 : wc.cell? ⟨gb293, 1, none⟩ = some (.int .i64 a0_1) := (blk_cell BK293.out 1).trans rfl
                    have hcz36_2 : wc.cell? ⟨gb293, 2, none⟩ = some (.int .i64 a0_2) := (blk_cell BK293.out 2).trans rfl
                    have hcz36_3 : wc.cell? ⟨gb293, 3, none⟩ = some (.int .i64 a0_3) := (blk_cell BK293.out 3).trans rfl
                    have hcz36_4 : wc.cell? ⟨gb293, 4, none⟩ = some (.int .i64 a0_4) := (blk_cell BK293.out 4).trans rfl
                    have hcz36_5 : wc.cell? ⟨gb293, 5, none⟩ = some (.string a0_5) := (blk_cell BK293.out 5).trans rfl
                    have hfz36_0 := blk_frozen BK293.out 0
                    have hfz36_1 := blk_frozen BK293.out 1
                    have hfz36_2 := blk_frozen BK293.out 2
                    have hfz36_3 := blk_frozen BK293.out 3
                    have hfz36_4 := blk_frozen BK293.out 4
                    have hfz36_5 := blk_frozen BK293.out 5
                    go_wp2
                    go_meet
                    case rel => exact ⟨_, (true), (by first | rfl | (simp; done) | (simp [*]; done)), H', ⟨by have := HJ1.out; have := HJ17.out; first | omega | exact Nat.le_refl _⟩, ⟨by (with_reducible repeat (first | refine blk_drewN ?_ _ | refine blk_drew ?_ | refine blk_alloc ?_ _)); exact BK293.out⟩, ⟨by repeat (first | (with_reducible first | exact HB.out | apply below_alloc | apply pw_below_drewN | apply below_drew1 | refine below_set ?_ GE293.out) | exact HB.out)⟩⟩
                  · rw [if_neg c35] at H
                    have c35b0 : decide (a0_3 < 0) = false := decide_eq_false c35
                    clear c35
                    (first | rw [c35b0] | (simp only [i64_w, i32_w]; rw [c35b0]) | skip)
                    have H' := Aside0.mk H
                    clear H
                    have hcz37_0 : wc.cell? ⟨gb293, 0, none⟩ = some (.int .i64 a0_0) := (blk_cell BK293.out 0).trans rfl
                    have hcz37_1 : wc.cell? ⟨gb293, 1, none⟩ = some (.int .i64 a0_1) := (blk_cell BK293.out 1).trans rfl
                    have hcz37_2 : wc.cell? ⟨gb293, 2, none⟩ = some (.int .i64 a0_2) := (blk_cell BK293.out 2).trans rfl
                    have hcz37_3 : wc.cell? ⟨gb293, 3, none⟩ = some (.int .i64 a0_3) := (blk_cell BK293.out 3).trans rfl
                    have hcz37_4 : wc.cell? ⟨gb293, 4, none⟩ = some (.int .i64 a0_4) := (blk_cell BK293.out 4).trans rfl
                    have hcz37_5 : wc.cell? ⟨gb293, 5, none⟩ = some (.string a0_5) := (blk_cell BK293.out 5).trans rfl
                    have hfz37_0 := blk_frozen BK293.out 0
                    have hfz37_1 := blk_frozen BK293.out 1
                    have hfz37_2 := blk_frozen BK293.out 2
                    have hfz37_3 := blk_frozen BK293.out 3
                    have hfz37_4 := blk_frozen BK293.out 4
                    have hfz37_5 := blk_frozen BK293.out 5
                    go_wp2
                    go_meet
                    case rel => exact ⟨_, (decide (a0_3 > 127)), (by first | rfl | (simp; done) | (simp [*]; done)), H', ⟨by have := HJ1.out; have := HJ17.out; first | omega | exact Nat.le_refl _⟩, ⟨by (with_reducible repeat (first | refine blk_drewN ?_ _ | refine blk_drew ?_ | refine blk_alloc ?_ _)); exact BK293.out⟩, ⟨by repeat (first | (with_reducible first | exact HB.out | apply below_alloc | apply pw_below_drewN | apply below_drew1 | refine below_set ?_ GE293.out) | exact HB.out)⟩⟩
                case rest =>
                  clear HC33
                  try clear c1
                  try clear c2
                  try clear p2
                  try clear c3
                  try clear c4
                  try clear c4b0
                  try clear c6
                  try clear c6b0
                  try clear c8
                  try clear c8b0
                  try clear c8b1
                  try clear c10
                  try clear c10b0
                  try clear c12
                  try clear c12b0
                  try clear c14
                  try clear c14b0
                  try clear c17
                  try clear c19
                  try clear c19b0
                  try clear c20
                  try clear c22
                  try clear c23
                  try clear c23b0
                  try clear c23b1
                  try clear c24
                  try clear c24b0
                  try clear c24b1
                  try clear c25
                  try clear c25b0
                  try clear c25b1
                  try clear c28
                  try clear c28b0
                  try clear c28b1
                  try clear c29
                  try clear c29b0
                  try clear c29b1
                  try clear c35
                  try clear c35b0
                  try clear hcz11_0
                  try clear hcz11_1
                  try clear hcz11_2
                  try clear hcz11_3
                  try clear hcz11_4
                  try clear hcz11_5
                  try clear hcz13_0
                  try clear hcz13_1
                  try clear hcz13_2
                  try clear hcz13_3
                  try clear hcz13_4
                  try clear hcz13_5
                  try clear hcz15_0
                  try clear hcz15_1
                  try clear hcz15_2
                  try clear hcz15_3
                  try clear hcz15_4
                  try clear hcz15_5
                  try clear hcz16_0
                  try clear hcz16_1
                  try clear hcz16_2
                  try clear hcz16_3
                  try clear hcz16_4
                  try clear hcz16_5
                  try clear hcz20_0
                  try clear hcz20_1
                  try clear hcz20_2
                  try clear hcz20_3
                  try clear hcz20_4
                  try clear hcz20_5
                  try clear hcz21_0
                  try clear hcz21_1
                  try clear hcz21_2
                  try clear hcz21_3
                  try clear hcz21_4
                  try clear hcz21_5
                  try clear hcz26_0
                  try clear hcz26_1
                  try clear hcz26_2
                  try clear hcz26_3
                  try clear hcz26_4
                  try clear hcz26_5
                  try clear hcz27_0
                  try clear hcz27_1
                  try clear hcz27_2
                  try clear hcz27_3
                  try clear hcz27_4
                  try clear hcz27_5
                  try clear hcz30_0
                  try clear hcz30_1
                  try clear hcz30_2
                  try clear hcz30_3
                  try clear hcz30_4
                  try clear hcz30_5
                  try clear hcz31_0
                  try clear hcz31_1
                  try clear hcz31_2
                  try clear hcz31_3
                  try clear hcz31_4
                  try clear hcz31_5
                  try clear hcz32_0
                  try clear hcz32_1
                  try clear hcz32_2
                  try clear hcz32_3
                  try clear hcz32_4
                  try clear hcz32_5
                  try clear hcz34_0
                  try clear hcz34_1
                  try clear hcz34_2
                  try clear hcz34_3
                  try clear hcz34_4
                  try clear hcz34_5
                  try clear hcz36_0
                  try clear hcz36_1
                  try clear hcz36_2
                  try clear hcz36_3
                  try clear hcz36_4
                  try clear hcz36_5
                  try clear hcz37_0
                  try clear hcz37_1
                  try clear hcz37_2
                  try clear hcz37_3
                  try clear hcz37_4
                  try clear hcz37_5
                  try clear hcz5_0
                  try clear hcz5_1
                  try clear hcz5_2
                  try clear hcz5_3
                  try clear hcz5_4
                  try clear hcz5_5
                  try clear hcz7_0
                  try clear hcz7_1
                  try clear hcz7_2
                  try clear hcz7_3
                  try clear hcz7_4
                  try clear hcz7_5
                  try clear hcz9_0
                  try clear hcz9_1
                  try clear hcz9_2
                  try clear hcz9_3
                  try clear hcz9_4
                  try clear hcz9_5
                  try clear hfz11_0
                  try clear hfz11_1
                  try clear hfz11_2
                  try clear hfz11_3
                  try clear hfz11_4
                  try clear hfz11_5
                  try clear hfz13_0
                  try clear hfz13_1
                  try clear hfz13_2
                  try clear hfz13_3
                  try clear hfz13_4
                  try clear hfz13_5
                  try clear hfz15_0
                  try clear hfz15_1
                  try clear hfz15_2
                  try clear hfz15_3
                  try clear hfz15_4
                  try clear hfz15_5
                  try clear hfz16_0
                  try clear hfz16_1
                  try clear hfz16_2
                  try clear hfz16_3
                  try clear hfz16_4
                  try clear hfz16_5
                  try clear hfz20_0
                  try clear hfz20_1
                  try clear hfz20_2
                  try clear hfz20_3
                  try clear hfz20_4
                  try clear hfz20_5
                  try clear hfz21_0
                  try clear hfz21_1
                  try clear hfz21_2
                  try clear hfz21_3
                  try clear hfz21_4
                  try clear hfz21_5
                  try clear hfz26_0
                  try clear hfz26_1
                  try clear hfz26_2
                  try clear hfz26_3
                  try clear hfz26_4
                  try clear hfz26_5
                  try clear hfz27_0
                  try clear hfz27_1
                  try clear hfz27_2
                  try clear hfz27_3
                  try clear hfz27_4
                  try clear hfz27_5
                  try clear hfz30_0
                  try clear hfz30_1
                  try clear hfz30_2
                  try clear hfz30_3
                  try clear hfz30_4
                  try clear hfz30_5
                  try clear hfz31_0
                  try clear hfz31_1
                  try clear hfz31_2
                  try clear hfz31_3
                  try clear hfz31_4
                  try clear hfz31_5
                  try clear hfz32_0
                  try clear hfz32_1
                  try clear hfz32_2
                  try clear hfz32_3
                  try clear hfz32_4
                  try clear hfz32_5
                  try clear hfz34_0
                  try clear hfz34_1
                  try clear hfz34_2
                  try clear hfz34_3
                  try clear hfz34_4
                  try clear hfz34_5
                  try clear hfz36_0
                  try clear hfz36_1
                  try clear hfz36_2
                  try clear hfz36_3
                  try clear hfz36_4
                  try clear hfz36_5
                  try clear hfz37_0
                  try clear hfz37_1
                  try clear hfz37_2
                  try clear hfz37_3
                  try clear hfz37_4
                  try clear hfz37_5
                  try clear hfz5_0
                  try clear hfz5_1
                  try clear hfz5_2
                  try clear hfz5_3
                  try clear hfz5_4
                  try clear hfz5_5
                  try clear hfz7_0
                  try clear hfz7_1
                  try clear hfz7_2
                  try clear hfz7_3
                  try clear hfz7_4
                  try clear hfz7_5
                  try clear hfz9_0
                  try clear hfz9_1
                  try clear hfz9_2
                  try clear hfz9_3
                  try clear hfz9_4
                  try clear hfz9_5
                  try clear p2
                  obtain ⟨kq, x73_32, rfl, HA, HJ32, BK293, HB⟩ := hcut
                  cases kq with
                  | zero => exact absurd HA.out (by simp [partitaref15_Right.j2])
                  | succ kj32 =>
                    have H := HA.out
                    clear HA
                    simp only [partitaref15_Right.j2] at H
                    by_cases c38 : x73_32 = true
                    · subst c38
                      have H1 : (some false) = some r := by rw [if_pos rfl] at H; exact H
                      clear H
                      have H := H1
                      clear H1
                      obtain rfl := Option.some.inj H
                      go_wp2
                      go_ret
                      exact ⟨by first | rfl | (simp [errW_none, errW_some] <;> rfl) | (simp [*, errW_none, errW_some] <;> rfl), by repeat (first | (with_reducible first | exact HB.out | apply below_alloc | apply pw_below_drewN | apply below_drew1 | refine below_set ?_ GE293.out) | exact HB.out)⟩
                    · replace c38 := Bool.eq_false_iff.mpr c38
                      subst c38
                      have H1 : (if a0_1 = 16 then (if a0_2 = 0 then (some (a0_4 == 0)) else (some false)) else (if (a0_5.size : Int) = 0 then (if a0_4 = 0 then (some true) else (if a0_1 = 12 then (some false) else (some (a0_1 != 13)))) else (some false))) = some r := by rw [if_neg (show ¬ (false = true) by decide)] at H; exact H
                      clear H
                      have H := H1
                      clear H1
                      by_cases c39 : a0_1 = 16
                      · rw [if_pos c39] at H
                        have c39b0 : (a0_1 == 16) = true := beq_iff_eq.mpr c39
                        have c39b1 : (a0_1 != 16) = false := bne_eq_false_iff_eq.mpr c39
                        clear c39
                        by_cases c40 : a0_2 = 0
                        · rw [if_pos c40] at H
                          have c40b0 : (a0_2 == 0) = true := beq_iff_eq.mpr c40
                          have c40b1 : (a0_2 != 0) = false := bne_eq_false_iff_eq.mpr c40
                          clear c40
                          obtain rfl := Option.some.inj H
                          have hcz41_0 : wc.cell? ⟨gb293, 0, none⟩ = some (.int .i64 a0_0) := (blk_cell BK293.out 0).trans rfl
                          have hcz41_1 : wc.cell? ⟨gb293, 1, none⟩ = some (.int .i64 a0_1) := (blk_cell BK293.out 1).trans rfl
                          have hcz41_2 : wc.cell? ⟨gb293, 2, none⟩ = some (.int .i64 a0_2) := (blk_cell BK293.out 2).trans rfl
                          have hcz41_3 : wc.cell? ⟨gb293, 3, none⟩ = some (.int .i64 a0_3) := (blk_cell BK293.out 3).trans rfl
                          have hcz41_4 : wc.cell? ⟨gb293, 4, none⟩ = some (.int .i64 a0_4) := (blk_cell BK293.out 4).trans rfl
                          have hcz41_5 : wc.cell? ⟨gb293, 5, none⟩ = some (.string a0_5) := (blk_cell BK293.out 5).trans rfl
                          have hfz41_0 := blk_frozen BK293.out 0
                          have hfz41_1 := blk_frozen BK293.out 1
                          have hfz41_2 := blk_frozen BK293.out 2
                          have hfz41_3 := blk_frozen BK293.out 3
                          have hfz41_4 := blk_frozen BK293.out 4
                          have hfz41_5 := blk_frozen BK293.out 5
                          go_wp2
                          go_ret
                          exact ⟨by first | rfl | (simp [errW_none, errW_some] <;> rfl) | (simp [*, errW_none, errW_some] <;> rfl), by repeat (first | (with_reducible first | exact HB.out | apply below_alloc | apply pw_below_drewN | apply below_drew1 | refine below_set ?_ GE293.out) | exact HB.out)⟩
                        · rw [if_neg c40] at H
                          have c40b0 : (a0_2 == 0) = false := beq_eq_false_iff_ne.mpr c40
                          have c40b1 : (a0_2 != 0) = true := bne_iff_ne.mpr c40
                          obtain rfl := Option.some.inj H
                          have hcz42_0 : wc.cell? ⟨gb293, 0, none⟩ = some (.int .i64 a0_0) := (blk_cell BK293.out 0).trans rfl
                          have hcz42_1 : wc.cell? ⟨gb293, 1, none⟩ = some (.int .i64 a0_1) := (blk_cell BK293.out 1).trans rfl
                          have hcz42_2 : wc.cell? ⟨gb293, 2, none⟩ = some (.int .i64 a0_2) := (blk_cell BK293.out 2).trans rfl
                          have hcz42_3 : wc.cell? ⟨gb293, 3, none⟩ = some (.int .i64 a0_3) := (blk_cell BK293.out 3).trans rfl
                          have hcz42_4 : wc.cell? ⟨gb293, 4, none⟩ = some (.int .i64 a0_4) := (blk_cell BK293.out 4).trans rfl
                          have hcz42_5 : wc.cell? ⟨gb293, 5, none⟩ = some (.string a0_5) := (blk_cell BK293.out 5).trans rfl
                          have hfz42_0 := blk_frozen BK293.out 0
                          have hfz42_1 := blk_frozen BK293.out 1
                          have hfz42_2 := blk_frozen BK293.out 2
                          have hfz42_3 := blk_frozen BK293.out 3
                          have hfz42_4 := blk_frozen BK293.out 4
                          have hfz42_5 := blk_frozen BK293.out 5
                          go_wp2
                          go_ret
                          exact ⟨by first | rfl | (simp [errW_none, errW_some] <;> rfl) | (simp [*, errW_none, errW_some] <;> rfl), by repeat (first | (with_reducible first | exact HB.out | apply below_alloc | apply pw_below_drewN | apply below_drew1 | refine below_set ?_ GE293.out) | exact HB.out)⟩
                      · rw [if_neg c39] at H
                        have c39b0 : (a0_1 == 16) = false := beq_eq_false_iff_ne.mpr c39
                        have c39b1 : (a0_1 != 16) = true := bne_iff_ne.mpr c39
                        by_cases c43 : (a0_5.size : Int) = 0
                        · rw [if_pos c43] at H
                          have c43b0 : ((a0_5.size : Int) == 0) = true := beq_iff_eq.mpr c43
                          have c43b1 : ((a0_5.size : Int) != 0) = false := bne_eq_false_iff_eq.mpr c43
                          clear c43
                          by_cases c44 : a0_4 = 0
                          · rw [if_pos c44] at H
                            have c44b0 : (a0_4 == 0) = true := beq_iff_eq.mpr c44
                            have c44b1 : (a0_4 != 0) = false := bne_eq_false_iff_eq.mpr c44
                            clear c44
                            obtain rfl := Option.some.inj H
                            have hcz45_0 : wc.cell? ⟨gb293, 0, none⟩ = some (.int .i64 a0_0) := (blk_cell BK293.out 0).trans rfl
                            have hcz45_1 : wc.cell? ⟨gb293, 1, none⟩ = some (.int .i64 a0_1) := (blk_cell BK293.out 1).trans rfl
                            have hcz45_2 : wc.cell? ⟨gb293, 2, none⟩ = some (.int .i64 a0_2) := (blk_cell BK293.out 2).trans rfl
                            have hcz45_3 : wc.cell? ⟨gb293, 3, none⟩ = some (.int .i64 a0_3) := (blk_cell BK293.out 3).trans rfl
                            have hcz45_4 : wc.cell? ⟨gb293, 4, none⟩ = some (.int .i64 a0_4) := (blk_cell BK293.out 4).trans rfl
                            have hcz45_5 : wc.cell? ⟨gb293, 5, none⟩ = some (.string a0_5) := (blk_cell BK293.out 5).trans rfl
                            have hfz45_0 := blk_frozen BK293.out 0
                            have hfz45_1 := blk_frozen BK293.out 1
                            have hfz45_2 := blk_frozen BK293.out 2
                            have hfz45_3 := blk_frozen BK293.out 3
                            have hfz45_4 := blk_frozen BK293.out 4
                            have hfz45_5 := blk_frozen BK293.out 5
                            go_wp2
                            go_ret
                            exact ⟨by first | rfl | (simp [errW_none, errW_some] <;> rfl) | (simp [*, errW_none, errW_some] <;> rfl), by repeat (first | (with_reducible first | exact HB.out | apply below_alloc | apply pw_below_drewN | apply below_drew1 | refine below_set ?_ GE293.out) | exact HB.out)⟩
                          · rw [if_neg c44] at H
                            have c44b0 : (a0_4 == 0) = false := beq_eq_false_iff_ne.mpr c44
                            have c44b1 : (a0_4 != 0) = true := bne_iff_ne.mpr c44
                            by_cases c46 : a0_1 = 12
                            · rw [if_pos c46] at H
                              have c46b0 : (a0_1 == 12) = true := beq_iff_eq.mpr c46
                              have c46b1 : (a0_1 != 12) = false := bne_eq_false_iff_eq.mpr c46
                              clear c46
                              obtain rfl := Option.some.inj H
                              have hcz47_0 : wc.cell? ⟨gb293, 0, none⟩ = some (.int .i64 a0_0) := (blk_cell BK293.out 0).trans rfl
                              have hcz47_1 : wc.cell? ⟨gb293, 1, none⟩ = some (.int .i64 a0_1) := (blk_cell BK293.out 1).trans rfl
                              have hcz47_2 : wc.cell? ⟨gb293, 2, none⟩ = some (.int .i64 a0_2) := (blk_cell BK293.out 2).trans rfl
                              have hcz47_3 : wc.cell? ⟨gb293, 3, none⟩ = some (.int .i64 a0_3) := (blk_cell BK293.out 3).trans rfl
                              have hcz47_4 : wc.cell? ⟨gb293, 4, none⟩ = some (.int .i64 a0_4) := (blk_cell BK293.out 4).trans rfl
                              have hcz47_5 : wc.cell? ⟨gb293, 5, none⟩ = some (.string a0_5) := (blk_cell BK293.out 5).trans rfl
                              have hfz47_0 := blk_frozen BK293.out 0
                              have hfz47_1 := blk_frozen BK293.out 1
                              have hfz47_2 := blk_frozen BK293.out 2
                              have hfz47_3 := blk_frozen BK293.out 3
                              have hfz47_4 := blk_frozen BK293.out 4
                              have hfz47_5 := blk_frozen BK293.out 5
                              go_wp2
                              go_ret
                              exact ⟨by first | rfl | (simp [errW_none, errW_some] <;> rfl) | (simp [*, errW_none, errW_some] <;> rfl), by repeat (first | (with_reducible first | exact HB.out | apply below_alloc | apply pw_below_drewN | apply below_drew1 | refine below_set ?_ GE293.out) | exact HB.out)⟩
                            · rw [if_neg c46] at H
                              have c46b0 : (a0_1 == 12) = false := beq_eq_false_iff_ne.mpr c46
                              have c46b1 : (a0_1 != 12) = true := bne_iff_ne.mpr c46
                              obtain rfl := Option.some.inj H
                              have hcz48_0 : wc.cell? ⟨gb293, 0, none⟩ = some (.int .i64 a0_0) := (blk_cell BK293.out 0).trans rfl
                              have hcz48_1 : wc.cell? ⟨gb293, 1, none⟩ = some (.int .i64 a0_1) := (blk_cell BK293.out 1).trans rfl
                              have hcz48_2 : wc.cell? ⟨gb293, 2, none⟩ = some (.int .i64 a0_2) := (blk_cell BK293.out 2).trans rfl
                              have hcz48_3 : wc.cell? ⟨gb293, 3, none⟩ = some (.int .i64 a0_3) := (blk_cell BK293.out 3).trans rfl
                              have hcz48_4 : wc.cell? ⟨gb293, 4, none⟩ = some (.int .i64 a0_4) := (blk_cell BK293.out 4).trans rfl
                              have hcz48_5 : wc.cell? ⟨gb293, 5, none⟩ = some (.string a0_5) := (blk_cell BK293.out 5).trans rfl
                              have hfz48_0 := blk_frozen BK293.out 0
                              have hfz48_1 := blk_frozen BK293.out 1
                              have hfz48_2 := blk_frozen BK293.out 2
                              have hfz48_3 := blk_frozen BK293.out 3
                              have hfz48_4 := blk_frozen BK293.out 4
                              have hfz48_5 := blk_frozen BK293.out 5
                              go_wp2
                              go_ret
                              exact ⟨by first | rfl | (simp [errW_none, errW_some] <;> rfl) | (simp [*, errW_none, errW_some] <;> rfl), by repeat (first | (with_reducible first | exact HB.out | apply below_alloc | apply pw_below_drewN | apply below_drew1 | refine below_set ?_ GE293.out) | exact HB.out)⟩
                        · rw [if_neg c43] at H
                          have c43b0 : ((a0_5.size : Int) == 0) = false := beq_eq_false_iff_ne.mpr c43
                          have c43b1 : ((a0_5.size : Int) != 0) = true := bne_iff_ne.mpr c43
                          obtain rfl := Option.some.inj H
                          have hcz49_0 : wc.cell? ⟨gb293, 0, none⟩ = some (.int .i64 a0_0) := (blk_cell BK293.out 0).trans rfl
                          have hcz49_1 : wc.cell? ⟨gb293, 1, none⟩ = some (.int .i64 a0_1) := (blk_cell BK293.out 1).trans rfl
                          have hcz49_2 : wc.cell? ⟨gb293, 2, none⟩ = some (.int .i64 a0_2) := (blk_cell BK293.out 2).trans rfl
                          have hcz49_3 : wc.cell? ⟨gb293, 3, none⟩ = some (.int .i64 a0_3) := (blk_cell BK293.out 3).trans rfl
                          have hcz49_4 : wc.cell? ⟨gb293, 4, none⟩ = some (.int .i64 a0_4) := (blk_cell BK293.out 4).trans rfl
                          have hcz49_5 : wc.cell? ⟨gb293, 5, none⟩ = some (.string a0_5) := (blk_cell BK293.out 5).trans rfl
                          have hfz49_0 := blk_frozen BK293.out 0
                          have hfz49_1 := blk_frozen BK293.out 1
                          have hfz49_2 := blk_frozen BK293.out 2
                          have hfz49_3 := blk_frozen BK293.out 3
                          have hfz49_4 := blk_frozen BK293.out 4
                          have hfz49_5 := blk_frozen BK293.out 5
                          go_wp2
                          go_ret
                          exact ⟨by first | rfl | (simp [errW_none, errW_some] <;> rfl) | (simp [*, errW_none, errW_some] <;> rfl), by repeat (first | (with_reducible first | exact HB.out | apply below_alloc | apply pw_below_drewN | apply below_drew1 | refine below_set ?_ GE293.out) | exact HB.out)⟩

end Go.Proofs.Ytmeefdaanjaoaaa.M
