/- Printed by a program of this session (wip/tools), out of the translation: functions with the same answers as the Go code, and the contracts of the code. Lean checks it. -/
import Derived.Test.YtmeefdaanjaoaaaM0
import Derived.Test.YtmeefdaanjaoaaaM2
import Derived.Test.YtmeefdaanjaoaaaM6
namespace Go.Proofs.Ytmeefdaanjaoaaa.M
open Go.RowKit Go.Proofs.YtmeefdaanjaoaaaW.PrintWords Go.Proofs.YtmeefdaanjaoaaaW.PrintLast Go.Proofs.YtmeefdaanjaoaaaW.PrintMore
attribute [local go_sem] max2_int min2_int max_two min_two max_three min_three max_four min_four   -- for this text's walks alone
set_option linter.unusedVariables false
set_option linter.unusedSimpArgs false

/-! ### wire_Right: function 19 -/
mutual
def wire_Right.j0 : Nat → Bool → Int → Int → Int → Int → Int → ByteArray → Option (Bool)
  | 0, _, _, _, _, _, _, _ => none
  | k + 1, x14, x106000, x106001, x106002, x106003, x106004, x106005 => if x14 = true then (some false) else (if x106005.toList = ([] : List UInt8) then ((wire_within.f x106002 0 15).bind fun t107 => (if t107 = true then ((wire_within.f x106003 0 127).bind fun t108 => (wire_Right.j1 k t108 x106000 x106001 x106002 x106003 x106004 x106005)) else (wire_Right.j1 k false x106000 x106001 x106002 x106003 x106004 x106005))) else (wire_Right.j1 k false x106000 x106001 x106002 x106003 x106004 x106005))
def wire_Right.j1 : Nat → Bool → Int → Int → Int → Int → Int → ByteArray → Option (Bool)
  | 0, _, _, _, _, _, _, _ => none
  | k + 1, x3, x106000, x106001, x106002, x106003, x106004, x106005 => if x106002 = 0 then (wire_Right.j2 k x3 (x106004 == 0) x106000 x106001 x106002 x106003 x106004 x106005) else (wire_Right.j2 k x3 false x106000 x106001 x106002 x106003 x106004 x106005)
def wire_Right.j2 : Nat → Bool → Bool → Int → Int → Int → Int → Int → ByteArray → Option (Bool)
  | 0, _, _, _, _, _, _, _, _ => none
  | k + 1, x3, x4, x106000, x106001, x106002, x106003, x106004, x106005 => if x106001 = 8 then (wire_Right.j3 k x3 x4 x106001 (x106001 == 8) x106000 x106001 x106002 x106003 x106004 x106005) else (if x106001 = 9 then (wire_Right.j3 k x3 x4 x106001 (x106001 == 9) x106000 x106001 x106002 x106003 x106004 x106005) else (if x106001 = 10 then (wire_Right.j3 k x3 x4 x106001 (x106001 == 10) x106000 x106001 x106002 x106003 x106004 x106005) else (if x106001 = 11 then (wire_Right.j3 k x3 x4 x106001 (x106001 == 11) x106000 x106001 x106002 x106003 x106004 x106005) else (wire_Right.j3 k x3 x4 x106001 (x106001 == 14) x106000 x106001 x106002 x106003 x106004 x106005))))
def wire_Right.j3 : Nat → Bool → Bool → Int → Bool → Int → Int → Int → Int → Int → ByteArray → Option (Bool)
  | 0, _, _, _, _, _, _, _, _, _, _ => none
  | k + 1, x3, x4, x37, x38, x106000, x106001, x106002, x106003, x106004, x106005 => if x38 = true then (if x3 = true then ((wire_within.f x106004 0 127).bind fun t109 => (some t109)) else (some false)) else (if x37 = 12 then (wire_Right.j4 k x3 x4 x37 (x37 == 12) x106000 x106001 x106002 x106003 x106004 x106005) else (wire_Right.j4 k x3 x4 x37 (x37 == 13) x106000 x106001 x106002 x106003 x106004 x106005))
def wire_Right.j4 : Nat → Bool → Bool → Int → Bool → Int → Int → Int → Int → Int → ByteArray → Option (Bool)
  | 0, _, _, _, _, _, _, _, _, _, _ => none
  | k + 1, x3, x4, x37, x50, x106000, x106001, x106002, x106003, x106004, x106005 => if x50 = true then (if x3 = true then (some (x106004 == 0)) else (some false)) else (if x37 = 15 then (if x4 = true then (if x106003 = 240 then (some true) else (some (x106003 == 247))) else (some false)) else (if x37 = 16 then (if x4 = true then ((wire_within.f x106003 0 127).bind fun t110 => (some t110)) else (some false)) else (some false)))
end
def wire_Right.f (k : Nat) (a0_0 : Int) (a0_1 : Int) (a0_2 : Int) (a0_3 : Int) (a0_4 : Int) (a0_5 : ByteArray) : Option (Bool) := (wire_counts.f a0_0).bind fun t106 => (if t106 = true then (wire_Right.j0 k (decide ((a0_5.size : Int) > 100000)) a0_0 a0_1 a0_2 a0_3 a0_4 a0_5) else (wire_Right.j0 k true a0_0 a0_1 a0_2 a0_3 a0_4 a0_5))
theorem wire_Right.mono_l : ∀ k, (∀ y0 y1 y2 y3 y4 y5 y6, LeO (wire_Right.j0 k y0 y1 y2 y3 y4 y5 y6) (wire_Right.j0 (k + 1) y0 y1 y2 y3 y4 y5 y6)) ∧ (∀ y0 y1 y2 y3 y4 y5 y6, LeO (wire_Right.j1 k y0 y1 y2 y3 y4 y5 y6) (wire_Right.j1 (k + 1) y0 y1 y2 y3 y4 y5 y6)) ∧ (∀ y0 y1 y2 y3 y4 y5 y6 y7, LeO (wire_Right.j2 k y0 y1 y2 y3 y4 y5 y6 y7) (wire_Right.j2 (k + 1) y0 y1 y2 y3 y4 y5 y6 y7)) ∧ (∀ y0 y1 y2 y3 y4 y5 y6 y7 y8 y9, LeO (wire_Right.j3 k y0 y1 y2 y3 y4 y5 y6 y7 y8 y9) (wire_Right.j3 (k + 1) y0 y1 y2 y3 y4 y5 y6 y7 y8 y9)) ∧ (∀ y0 y1 y2 y3 y4 y5 y6 y7 y8 y9, LeO (wire_Right.j4 k y0 y1 y2 y3 y4 y5 y6 y7 y8 y9) (wire_Right.j4 (k + 1) y0 y1 y2 y3 y4 y5 y6 y7 y8 y9))
  | 0 => ⟨fun _ _ _ _ _ _ _ r h => by simp [wire_Right.j0] at h, fun _ _ _ _ _ _ _ r h => by simp [wire_Right.j1] at h, fun _ _ _ _ _ _ _ _ r h => by simp [wire_Right.j2] at h, fun _ _ _ _ _ _ _ _ _ _ r h => by simp [wire_Right.j3] at h, fun _ _ _ _ _ _ _ _ _ _ r h => by simp [wire_Right.j4] at h⟩
  | k + 1 => by
    obtain ⟨ih0, ih1, ih2, ih3, ih4⟩ := wire_Right.mono_l k
    refine ⟨?_, ?_, ?_, ?_, ?_⟩
    · intro y0 y1 y2 y3 y4 y5 y6
      unfold wire_Right.j0
      repeat' first
      | (with_reducible exact ih0 _ _ _ _ _ _ _)
      | (with_reducible exact ih1 _ _ _ _ _ _ _)
      | (with_reducible exact ih2 _ _ _ _ _ _ _ _)
      | (with_reducible exact ih3 _ _ _ _ _ _ _ _ _ _)
      | (with_reducible exact ih4 _ _ _ _ _ _ _ _ _ _)
      | (with_reducible exact LeO.refl _)
      | (with_reducible exact LeO.none _)
      | (with_reducible refine LeO.ite ?_ ?_)
      | (with_reducible refine LeO.bind ?_ (fun _ => ?_))
      | exact ih0 _ _ _ _ _ _ _
      | exact ih1 _ _ _ _ _ _ _
      | exact ih2 _ _ _ _ _ _ _ _
      | exact ih3 _ _ _ _ _ _ _ _ _ _
      | exact ih4 _ _ _ _ _ _ _ _ _ _
      | exact LeO.none _
      | refine LeO.ite ?_ ?_
      | refine LeO.bind ?_ (fun _ => ?_)
    · intro y0 y1 y2 y3 y4 y5 y6
      unfold wire_Right.j1
      repeat' first
      | (with_reducible exact ih0 _ _ _ _ _ _ _)
      | (with_reducible exact ih1 _ _ _ _ _ _ _)
      | (with_reducible exact ih2 _ _ _ _ _ _ _ _)
      | (with_reducible exact ih3 _ _ _ _ _ _ _ _ _ _)
      | (with_reducible exact ih4 _ _ _ _ _ _ _ _ _ _)
      | (with_reducible exact LeO.refl _)
      | (with_reducible exact LeO.none _)
      | (with_reducible refine LeO.ite ?_ ?_)
      | (with_reducible refine LeO.bind ?_ (fun _ => ?_))
      | exact ih0 _ _ _ _ _ _ _
      | exact ih1 _ _ _ _ _ _ _
      | exact ih2 _ _ _ _ _ _ _ _
      | exact ih3 _ _ _ _ _ _ _ _ _ _
      | exact ih4 _ _ _ _ _ _ _ _ _ _
      | exact LeO.none _
      | refine LeO.ite ?_ ?_
      | refine LeO.bind ?_ (fun _ => ?_)
    · intro y0 y1 y2 y3 y4 y5 y6 y7
      unfold wire_Right.j2
      repeat' first
      | (with_reducible exact ih0 _ _ _ _ _ _ _)
      | (with_reducible exact ih1 _ _ _ _ _ _ _)
      | (with_reducible exact ih2 _ _ _ _ _ _ _ _)
      | (with_reducible exact ih3 _ _ _ _ _ _ _ _ _ _)
      | (with_reducible exact ih4 _ _ _ _ _ _ _ _ _ _)
      | (with_reducible exact LeO.refl _)
      | (with_reducible exact LeO.none _)
      | (with_reducible refine LeO.ite ?_ ?_)
      | (with_reducible refine LeO.bind ?_ (fun _ => ?_))
      | exact ih0 _ _ _ _ _ _ _
      | exact ih1 _ _ _ _ _ _ _
      | exact ih2 _ _ _ _ _ _ _ _
      | exact ih3 _ _ _ _ _ _ _ _ _ _
      | exact ih4 _ _ _ _ _ _ _ _ _ _
      | exact LeO.none _
      | refine LeO.ite ?_ ?_
      | refine LeO.bind ?_ (fun _ => ?_)
    · intro y0 y1 y2 y3 y4 y5 y6 y7 y8 y9
      unfold wire_Right.j3
      repeat' first
      | (with_reducible exact ih0 _ _ _ _ _ _ _)
      | (with_reducible exact ih1 _ _ _ _ _ _ _)
      | (with_reducible exact ih2 _ _ _ _ _ _ _ _)
      | (with_reducible exact ih3 _ _ _ _ _ _ _ _ _ _)
      | (with_reducible exact ih4 _ _ _ _ _ _ _ _ _ _)
      | (with_reducible exact LeO.refl _)
      | (with_reducible exact LeO.none _)
      | (with_reducible refine LeO.ite ?_ ?_)
      | (with_reducible refine LeO.bind ?_ (fun _ => ?_))
      | exact ih0 _ _ _ _ _ _ _
      | exact ih1 _ _ _ _ _ _ _
      | exact ih2 _ _ _ _ _ _ _ _
      | exact ih3 _ _ _ _ _ _ _ _ _ _
      | exact ih4 _ _ _ _ _ _ _ _ _ _
      | exact LeO.none _
      | refine LeO.ite ?_ ?_
      | refine LeO.bind ?_ (fun _ => ?_)
    · intro y0 y1 y2 y3 y4 y5 y6 y7 y8 y9
      unfold wire_Right.j4
      repeat' first
      | (with_reducible exact ih0 _ _ _ _ _ _ _)
      | (with_reducible exact ih1 _ _ _ _ _ _ _)
      | (with_reducible exact ih2 _ _ _ _ _ _ _ _)
      | (with_reducible exact ih3 _ _ _ _ _ _ _ _ _ _)
      | (with_reducible exact ih4 _ _ _ _ _ _ _ _ _ _)
      | (with_reducible exact LeO.refl _)
      | (with_reducible exact LeO.none _)
      | (with_reducible refine LeO.ite ?_ ?_)
      | (with_reducible refine LeO.bind ?_ (fun _ => ?_))
      | exact ih0 _ _ _ _ _ _ _
      | exact ih1 _ _ _ _ _ _ _
      | exact ih2 _ _ _ _ _ _ _ _
      | exact ih3 _ _ _ _ _ _ _ _ _ _
      | exact ih4 _ _ _ _ _ _ _ _ _ _
      | exact LeO.none _
      | refine LeO.ite ?_ ?_
      | refine LeO.bind ?_ (fun _ => ?_)
theorem wire_Right.mono : ∀ a0 a1 a2 a3 a4 a5 k, LeO (wire_Right.f k a0 a1 a2 a3 a4 a5) (wire_Right.f (k + 1) a0 a1 a2 a3 a4 a5) := by
  intro a0 a1 a2 a3 a4 a5 k
  obtain ⟨ih0, ih1, ih2, ih3, ih4⟩ := wire_Right.mono_l k
  unfold wire_Right.f
  repeat' first
      | (with_reducible exact ih0 _ _ _ _ _ _ _)
      | (with_reducible exact ih1 _ _ _ _ _ _ _)
      | (with_reducible exact ih2 _ _ _ _ _ _ _ _)
      | (with_reducible exact ih3 _ _ _ _ _ _ _ _ _ _)
      | (with_reducible exact ih4 _ _ _ _ _ _ _ _ _ _)
      | (with_reducible exact LeO.refl _)
      | (with_reducible exact LeO.none _)
      | (with_reducible refine LeO.ite ?_ ?_)
      | (with_reducible refine LeO.bind ?_ (fun _ => ?_))
      | exact ih0 _ _ _ _ _ _ _
      | exact ih1 _ _ _ _ _ _ _
      | exact ih2 _ _ _ _ _ _ _ _
      | exact ih3 _ _ _ _ _ _ _ _ _ _
      | exact ih4 _ _ _ _ _ _ _ _ _ _
      | exact LeO.none _
      | refine LeO.ite ?_ ?_
      | refine LeO.bind ?_ (fun _ => ?_)
set_option maxHeartbeats 8000000 in
set_option maxRecDepth 100000 in
theorem wire_Right.calls (k : Nat) (a0_0 : Int) (a0_1 : Int) (a0_2 : Int) (a0_3 : Int) (a0_4 : Int) (a0_5 : ByteArray) (r : Bool) (w : World) (h : wire_Right.f k a0_0 a0_1 a0_2 a0_3 a0_4 a0_5 = some r) :
    Calls Try.prog 19 #[.agg #[.int .i64 a0_0, .int .i64 a0_1, .int .i64 a0_2, .int .i64 a0_3, .int .i64 a0_4, .string a0_5]] w fun e w' => e = .returned (.bool r) ∧ Below w.heap.size w w' := by
  have hu31 := Try.underlying31
  have HB := Aside0.mk (Below.refl w.heap.size w)
  have H : ((wire_counts.f a0_0).bind fun t106 => (if t106 = true then (wire_Right.j0 k (decide ((a0_5.size : Int) > 100000)) a0_0 a0_1 a0_2 a0_3 a0_4 a0_5) else (wire_Right.j0 k true a0_0 a0_1 a0_2 a0_3 a0_4 a0_5))) = some r := h
  clear h
  have HC2 := Aside0.mk H
  clear H
  go_enter Try.func19, Try.ntmps19
  go_upto_region 1 with (first | ((with_reducible refine gate_dst (N := 1) rfl ?_); (try (refine gate_guard (by rfl) ?_; dsimp only)); refine box_event ?hg (N := 1) ?hd (cs := #[.int .i64 a0_0, .int .i64 a0_1, .int .i64 a0_2, .int .i64 a0_3, .int .i64 a0_4, .string a0_5]) (t := 31) ?hr ?_; (case hd => rfl); (case hg => rfl); (case hr => first | (go_simp; done) | (go_simp; rfl)); intro gb105 hg w3 hbox hb; have n0_ := Aside0.mk (below_step (by repeat (first | (with_reducible first | exact HB.out | apply below_alloc | apply pw_below_drewN | apply below_drew1) | exact HB.out)) hb); have n1_ := Aside0.mk (hbox); have n2_ := Aside0.mk ((by rw [hg]; exact (below_size (by repeat (first | (with_reducible first | exact HB.out | apply below_alloc | apply pw_below_drewN | apply below_drew1) | exact HB.out))) : w.heap.size ≤ gb105)); have n3_ := Aside0.mk ((by rw [hg]; exact (below_size (by repeat (first | (with_reducible first | exact HB.out | apply below_alloc | apply pw_below_drewN | apply below_drew1) | exact HB.out))) : w.heap.size ≤ gb105)); clear HB; have HB := n0_; have BK105 := n1_; have GW105 := n2_; have GE105 := n3_; clear n0_ n1_ n2_ n3_; clear hb hbox hg))
  (try simp only [Act.put, List.setIfInBounds_toArray, List.set_cons_zero, List.set_cons_succ])
  go_cut [14] (fun v14 wc => ∃ (kq : Nat) (x14_1 : Bool), v14 = .bool x14_1 ∧ Aside0 (wire_Right.j0 kq x14_1 a0_0 a0_1 a0_2 a0_3 a0_4 a0_5 = some r) ∧ Aside0 (kq ≤ k) ∧ Aside0 (wc.heap[gb105]? = some (.cells #[.int .i64 a0_0, .int .i64 a0_1, .int .i64 a0_2, .int .i64 a0_3, .int .i64 a0_4, .string a0_5] 31 (0, 0))) ∧ Aside0 (Below w.heap.size w wc))
  case first =>
    have H := HC2.out
    clear HC2
    replace H := Option.bind_eq_some_iff.mp H
    obtain ⟨t106, A40, H⟩ := H
    replace H : (if t106 = true then (wire_Right.j0 k (decide ((a0_5.size : Int) > 100000)) a0_0 a0_1 a0_2 a0_3 a0_4 a0_5) else (wire_Right.j0 k true a0_0 a0_1 a0_2 a0_3 a0_4 a0_5)) = some r := H
    have A4 := Aside0.mk A40
    clear A40
    by_cases c5 : t106 = true
    · subst c5
      have H1 : (wire_Right.j0 k (decide ((a0_5.size : Int) > 100000)) a0_0 a0_1 a0_2 a0_3 a0_4 a0_5) = some r := by rw [if_pos rfl] at H; exact H
      clear H
      have H := H1
      clear H1
      have H' := Aside0.mk H
      clear H
      have hcz6_0 : w3.cell? ⟨gb105, 0, none⟩ = some (.int .i64 a0_0) := (blk_cell BK105.out 0).trans rfl
      have hcz6_1 : w3.cell? ⟨gb105, 1, none⟩ = some (.int .i64 a0_1) := (blk_cell BK105.out 1).trans rfl
      have hcz6_2 : w3.cell? ⟨gb105, 2, none⟩ = some (.int .i64 a0_2) := (blk_cell BK105.out 2).trans rfl
      have hcz6_3 : w3.cell? ⟨gb105, 3, none⟩ = some (.int .i64 a0_3) := (blk_cell BK105.out 3).trans rfl
      have hcz6_4 : w3.cell? ⟨gb105, 4, none⟩ = some (.int .i64 a0_4) := (blk_cell BK105.out 4).trans rfl
      have hcz6_5 : w3.cell? ⟨gb105, 5, none⟩ = some (.string a0_5) := (blk_cell BK105.out 5).trans rfl
      have hfz6_0 := blk_frozen BK105.out 0
      have hfz6_1 := blk_frozen BK105.out 1
      have hfz6_2 := blk_frozen BK105.out 2
      have hfz6_3 := blk_frozen BK105.out 3
      have hfz6_4 := blk_frozen BK105.out 4
      have hfz6_5 := blk_frozen BK105.out 5
      go_wp2_with (first | ((with_reducible refine gate_callee (f := 27) rfl ?_); refine goesL_ (some 7) rfl rfl Try.func27 (by kernel_rfl) rfl #[.int .i64 a0_0] rfl (by (try simp only [List.map_toArray, List.map_cons, List.map_nil]); first | done | rfl | (simp only [List.length_drop, List.length_take]; rfl)) ?_; (with_reducible refine (wire_counts.calls a0_0 true _ A4.out).mono ?_); rintro e w' ⟨rfl, ⟨nd, rfl⟩⟩; refine ⟨_, rfl, ?_⟩))
      go_meet
      case rel => exact ⟨_, (decide ((a0_5.size : Int) > 100000)), (by first | rfl | (simp; done) | (simp [*]; done)), H', ⟨by first | omega | exact Nat.le_refl _⟩, ⟨by (with_reducible repeat (first | refine blk_drewN ?_ _ | refine blk_drew ?_ | refine blk_alloc ?_ _)); exact BK105.out⟩, ⟨by repeat (first | (with_reducible first | exact HB.out | apply below_alloc | apply pw_below_drewN | apply below_drew1 | refine below_set ?_ GE105.out) | exact HB.out)⟩⟩
    · replace c5 := Bool.eq_false_iff.mpr c5
      subst c5
      have H1 : (wire_Right.j0 k true a0_0 a0_1 a0_2 a0_3 a0_4 a0_5) = some r := by rw [if_neg (show ¬ (false = true) by decide)] at H; exact H
      clear H
      have H := H1
      clear H1
      have H' := Aside0.mk H
      clear H
      have hcz7_0 : w3.cell? ⟨gb105, 0, none⟩ = some (.int .i64 a0_0) := (blk_cell BK105.out 0).trans rfl
      have hcz7_1 : w3.cell? ⟨gb105, 1, none⟩ = some (.int .i64 a0_1) := (blk_cell BK105.out 1).trans rfl
      have hcz7_2 : w3.cell? ⟨gb105, 2, none⟩ = some (.int .i64 a0_2) := (blk_cell BK105.out 2).trans rfl
      have hcz7_3 : w3.cell? ⟨gb105, 3, none⟩ = some (.int .i64 a0_3) := (blk_cell BK105.out 3).trans rfl
      have hcz7_4 : w3.cell? ⟨gb105, 4, none⟩ = some (.int .i64 a0_4) := (blk_cell BK105.out 4).trans rfl
      have hcz7_5 : w3.cell? ⟨gb105, 5, none⟩ = some (.string a0_5) := (blk_cell BK105.out 5).trans rfl
      have hfz7_0 := blk_frozen BK105.out 0
      have hfz7_1 := blk_frozen BK105.out 1
      have hfz7_2 := blk_frozen BK105.out 2
      have hfz7_3 := blk_frozen BK105.out 3
      have hfz7_4 := blk_frozen BK105.out 4
      have hfz7_5 := blk_frozen BK105.out 5
      go_wp2_with (first | ((with_reducible refine gate_callee (f := 27) rfl ?_); refine goesL_ (some 7) rfl rfl Try.func27 (by kernel_rfl) rfl #[.int .i64 a0_0] rfl (by (try simp only [List.map_toArray, List.map_cons, List.map_nil]); first | done | rfl | (simp only [List.length_drop, List.length_take]; rfl)) ?_; (with_reducible refine (wire_counts.calls a0_0 false _ A4.out).mono ?_); rintro e w' ⟨rfl, ⟨nd, rfl⟩⟩; refine ⟨_, rfl, ?_⟩))
      go_meet
      case rel => exact ⟨_, (true), (by first | rfl | (simp; done) | (simp [*]; done)), H', ⟨by first | omega | exact Nat.le_refl _⟩, ⟨by (with_reducible repeat (first | refine blk_drewN ?_ _ | refine blk_drew ?_ | refine blk_alloc ?_ _)); exact BK105.out⟩, ⟨by repeat (first | (with_reducible first | exact HB.out | apply below_alloc | apply pw_below_drewN | apply below_drew1 | refine below_set ?_ GE105.out) | exact HB.out)⟩⟩
  case rest =>
    clear HC2
    try clear c1
    try clear c2
    try clear p2
    try clear c5
    try clear hcz6_0
    try clear hcz6_1
    try clear hcz6_2
    try clear hcz6_3
    try clear hcz6_4
    try clear hcz6_5
    try clear hcz7_0
    try clear hcz7_1
    try clear hcz7_2
    try clear hcz7_3
    try clear hcz7_4
    try clear hcz7_5
    try clear hfz6_0
    try clear hfz6_1
    try clear hfz6_2
    try clear hfz6_3
    try clear hfz6_4
    try clear hfz6_5
    try clear hfz7_0
    try clear hfz7_1
    try clear hfz7_2
    try clear hfz7_3
    try clear hfz7_4
    try clear hfz7_5
    obtain ⟨kq, x14_1, rfl, HA, HJ1, BK105, HB⟩ := hcut
    cases kq with
    | zero => exact absurd HA.out (by simp [wire_Right.j0])
    | succ kj1 =>
      have H := HA.out
      clear HA
      simp only [wire_Right.j0] at H
      by_cases c8 : x14_1 = true
      · subst c8
        have H1 : (some false) = some r := by rw [if_pos rfl] at H; exact H
        clear H
        have H := H1
        clear H1
        obtain rfl := Option.some.inj H
        go_wp2
        go_ret
        exact ⟨by first | rfl | (simp [errW_none, errW_some] <;> rfl) | (simp [*, errW_none, errW_some] <;> rfl), by repeat (first | (with_reducible first | exact HB.out | apply below_alloc | apply pw_below_drewN | apply below_drew1 | refine below_set ?_ GE105.out) | exact HB.out)⟩
      · replace c8 := Bool.eq_false_iff.mpr c8
        subst c8
        have H1 : (if a0_5.toList = ([] : List UInt8) then ((wire_within.f a0_2 0 15).bind fun t107 => (if t107 = true then ((wire_within.f a0_3 0 127).bind fun t108 => (wire_Right.j1 kj1 t108 a0_0 a0_1 a0_2 a0_3 a0_4 a0_5)) else (wire_Right.j1 kj1 false a0_0 a0_1 a0_2 a0_3 a0_4 a0_5))) else (wire_Right.j1 kj1 false a0_0 a0_1 a0_2 a0_3 a0_4 a0_5)) = some r := by rw [if_neg (show ¬ (false = true) by decide)] at H; exact H
        clear H
        have H := H1
        clear H1
        have HC9 := Aside0.mk H
        clear H
        go_upto_region 3 with (fail)
        go_cut [3] (fun v3 wc => ∃ (kq : Nat) (x3_8 : Bool), v3 = .bool x3_8 ∧ Aside0 (wire_Right.j1 kq x3_8 a0_0 a0_1 a0_2 a0_3 a0_4 a0_5 = some r) ∧ Aside0 (kq ≤ kj1) ∧ Aside0 (wc.heap[gb105]? = some (.cells #[.int .i64 a0_0, .int .i64 a0_1, .int .i64 a0_2, .int .i64 a0_3, .int .i64 a0_4, .string a0_5] 31 (0, 0))) ∧ Aside0 (Below w.heap.size w wc))
        case first =>
          have H := HC9.out
          clear HC9
          by_cases c10 : a0_5.toList = ([] : List UInt8)
          · rw [if_pos c10] at H
            have c10b0 : (a0_5.toList == ([] : List UInt8)) = true := beq_iff_eq.mpr c10
            have c10b1 : (a0_5.toList != ([] : List UInt8)) = false := bne_eq_false_iff_eq.mpr c10
            clear c10
            (first | rw [c10b0] | (simp only [i64_w, i32_w]; rw [c10b0]) | skip)
            replace H := Option.bind_eq_some_iff.mp H
            obtain ⟨t107, A110, H⟩ := H
            replace H : (if t107 = true then ((wire_within.f a0_3 0 127).bind fun t108 => (wire_Right.j1 kj1 t108 a0_0 a0_1 a0_2 a0_3 a0_4 a0_5)) else (wire_Right.j1 kj1 false a0_0 a0_1 a0_2 a0_3 a0_4 a0_5)) = some r := H
            have A11 := Aside0.mk A110
            clear A110
            by_cases c12 : t107 = true
            · subst c12
              have H1 : ((wire_within.f a0_3 0 127).bind fun t108 => (wire_Right.j1 kj1 t108 a0_0 a0_1 a0_2 a0_3 a0_4 a0_5)) = some r := by rw [if_pos rfl] at H; exact H
              clear H
              have H := H1
              clear H1
              replace H := Option.bind_eq_some_iff.mp H
              obtain ⟨t108, A130, H⟩ := H
              replace H : (wire_Right.j1 kj1 t108 a0_0 a0_1 a0_2 a0_3 a0_4 a0_5) = some r := H
              have A13 := Aside0.mk A130
              clear A130
              have H' := Aside0.mk H
              clear H
              have hcz14_0 : wc.cell? ⟨gb105, 0, none⟩ = some (.int .i64 a0_0) := (blk_cell BK105.out 0).trans rfl
              have hcz14_1 : wc.cell? ⟨gb105, 1, none⟩ = some (.int .i64 a0_1) := (blk_cell BK105.out 1).trans rfl
              have hcz14_2 : wc.cell? ⟨gb105, 2, none⟩ = some (.int .i64 a0_2) := (blk_cell BK105.out 2).trans rfl
              have hcz14_3 : wc.cell? ⟨gb105, 3, none⟩ = some (.int .i64 a0_3) := (blk_cell BK105.out 3).trans rfl
              have hcz14_4 : wc.cell? ⟨gb105, 4, none⟩ = some (.int .i64 a0_4) := (blk_cell BK105.out 4).trans rfl
              have hcz14_5 : wc.cell? ⟨gb105, 5, none⟩ = some (.string a0_5) := (blk_cell BK105.out 5).trans rfl
              have hfz14_0 := blk_frozen BK105.out 0
              have hfz14_1 := blk_frozen BK105.out 1
              have hfz14_2 := blk_frozen BK105.out 2
              have hfz14_3 := blk_frozen BK105.out 3
              have hfz14_4 := blk_frozen BK105.out 4
              have hfz14_5 := blk_frozen BK105.out 5
              go_wp2_with (first | (go_at_call 29; (with_reducible refine (wire_within.calls a0_2 0 15 true _ A11.out).mono ?_); rintro e w' ⟨rfl, ⟨nd, rfl⟩⟩) | (go_at_call 29; (with_reducible refine (wire_within.calls a0_3 0 127 t108 _ A13.out).mono ?_); rintro e w' ⟨rfl, ⟨nd, rfl⟩⟩))
              go_meet
              case rel => exact ⟨_, (t108), (by first | rfl | (simp; done) | (simp [*]; done)), H', ⟨by have := HJ1.out; first | omega | exact Nat.le_refl _⟩, ⟨by (with_reducible repeat (first | refine blk_drewN ?_ _ | refine blk_drew ?_ | refine blk_alloc ?_ _)); exact BK105.out⟩, ⟨by repeat (first | (with_reducible first | exact HB.out | apply below_alloc | apply pw_below_drewN | apply below_drew1 | refine below_set ?_ GE105.out) | exact HB.out)⟩⟩
            · replace c12 := Bool.eq_false_iff.mpr c12
              subst c12
              have H1 : (wire_Right.j1 kj1 false a0_0 a0_1 a0_2 a0_3 a0_4 a0_5) = some r := by rw [if_neg (show ¬ (false = true) by decide)] at H; exact H
              clear H
              have H := H1
              clear H1
              have H' := Aside0.mk H
              clear H
              have hcz15_0 : wc.cell? ⟨gb105, 0, none⟩ = some (.int .i64 a0_0) := (blk_cell BK105.out 0).trans rfl
              have hcz15_1 : wc.cell? ⟨gb105, 1, none⟩ = some (.int .i64 a0_1) := (blk_cell BK105.out 1).trans rfl
              have hcz15_2 : wc.cell? ⟨gb105, 2, none⟩ = some (.int .i64 a0_2) := (blk_cell BK105.out 2).trans rfl
              have hcz15_3 : wc.cell? ⟨gb105, 3, none⟩ = some (.int .i64 a0_3) := (blk_cell BK105.out 3).trans rfl
              have hcz15_4 : wc.cell? ⟨gb105, 4, none⟩ = some (.int .i64 a0_4) := (blk_cell BK105.out 4).trans rfl
              have hcz15_5 : wc.cell? ⟨gb105, 5, none⟩ = some (.string a0_5) := (blk_cell BK105.out 5).trans rfl
              have hfz15_0 := blk_frozen BK105.out 0
              have hfz15_1 := blk_frozen BK105.out 1
              have hfz15_2 := blk_frozen BK105.out 2
              have hfz15_3 := blk_frozen BK105.out 3
              have hfz15_4 := blk_frozen BK105.out 4
              have hfz15_5 := blk_frozen BK105.out 5
              go_wp2_with (first | (go_at_call 29; (with_reducible refine (wire_within.calls a0_2 0 15 false _ A11.out).mono ?_); rintro e w' ⟨rfl, ⟨nd, rfl⟩⟩))
              go_meet
              case rel => exact ⟨_, (false), (by first | rfl | (simp; done) | (simp [*]; done)), H', ⟨by have := HJ1.out; first | omega | exact Nat.le_refl _⟩, ⟨by (with_reducible repeat (first | refine blk_drewN ?_ _ | refine blk_drew ?_ | refine blk_alloc ?_ _)); exact BK105.out⟩, ⟨by repeat (first | (with_reducible first | exact HB.out | apply below_alloc | apply pw_below_drewN | apply below_drew1 | refine below_set ?_ GE105.out) | exact HB.out)⟩⟩
          · rw [if_neg c10] at H
            have c10b0 : (a0_5.toList == ([] : List UInt8)) = false := beq_eq_false_iff_ne.mpr c10
            have c10b1 : (a0_5.toList != ([] : List UInt8)) = true := bne_iff_ne.mpr c10
            (first | rw [c10b0] | (simp only [i64_w, i32_w]; rw [c10b0]) | skip)
            have H' := Aside0.mk H
            clear H
            have hcz16_0 : wc.cell? ⟨gb105, 0, none⟩ = some (.int .i64 a0_0) := (blk_cell BK105.out 0).trans rfl
            have hcz16_1 : wc.cell? ⟨gb105, 1, none⟩ = some (.int .i64 a0_1) := (blk_cell BK105.out 1).trans rfl
            have hcz16_2 : wc.cell? ⟨gb105, 2, none⟩ = some (.int .i64 a0_2) := (blk_cell BK105.out 2).trans rfl
            have hcz16_3 : wc.cell? ⟨gb105, 3, none⟩ = some (.int .i64 a0_3) := (blk_cell BK105.out 3).trans rfl
            have hcz16_4 : wc.cell? ⟨gb105, 4, none⟩ = some (.int .i64 a0_4) := (blk_cell BK105.out 4).trans rfl
            have hcz16_5 : wc.cell? ⟨gb105, 5, none⟩ = some (.string a0_5) := (blk_cell BK105.out 5).trans rfl
            have hfz16_0 := blk_frozen BK105.out 0
            have hfz16_1 := blk_frozen BK105.out 1
            have hfz16_2 := blk_frozen BK105.out 2
            have hfz16_3 := blk_frozen BK105.out 3
            have hfz16_4 := blk_frozen BK105.out 4
            have hfz16_5 := blk_frozen BK105.out 5
            go_wp2
            go_meet
            case rel => exact ⟨_, (false), (by first | rfl | (simp; done) | (simp [*]; done)), H', ⟨by have := HJ1.out; first | omega | exact Nat.le_refl _⟩, ⟨by (with_reducible repeat (first | refine blk_drewN ?_ _ | refine blk_drew ?_ | refine blk_alloc ?_ _)); exact BK105.out⟩, ⟨by repeat (first | (with_reducible first | exact HB.out | apply below_alloc | apply pw_below_drewN | apply below_drew1 | refine below_set ?_ GE105.out) | exact HB.out)⟩⟩
        case rest =>
          clear HC9
          try clear c1
          try clear c2
          try clear p2
          try clear c5
          try clear c8
          try clear c10
          try clear c10b0
          try clear c10b1
          try clear c12
          try clear hcz14_0
          try clear hcz14_1
          try clear hcz14_2
          try clear hcz14_3
          try clear hcz14_4
          try clear hcz14_5
          try clear hcz15_0
          try clear hcz15_1
          try clear hcz15_2
          try clear hcz15_3
          try clear hcz15_4
          try clear hcz15_5
          try clear hcz16_0
          try clear hcz16_1
          try clear hcz16_2
          try clear hcz16_3
          try clear hcz16_4
          try clear hcz16_5
          try clear hcz6_0
          try clear hcz6_1
          try clear hcz6_2
          try clear hcz6_3
          try clear hcz6_4
          try clear hcz6_5
          try clear hcz7_0
          try clear hcz7_1
          try clear hcz7_2
          try clear hcz7_3
          try clear hcz7_4
          try clear hcz7_5
          try clear hfz14_0
          try clear hfz14_1
          try clear hfz14_2
          try clear hfz14_3
          try clear hfz14_4
          try clear hfz14_5
          try clear hfz15_0
          try clear hfz15_1
          try clear hfz15_2
          try clear hfz15_3
          try clear hfz15_4
          try clear hfz15_5
          try clear hfz16_0
          try clear hfz16_1
          try clear hfz16_2
          try clear hfz16_3
          try clear hfz16_4
          try clear hfz16_5
          try clear hfz6_0
          try clear hfz6_1
          try clear hfz6_2
          try clear hfz6_3
          try clear hfz6_4
          try clear hfz6_5
          try clear hfz7_0
          try clear hfz7_1
          try clear hfz7_2
          try clear hfz7_3
          try clear hfz7_4
          try clear hfz7_5
          try clear p2
          obtain ⟨kq, x3_8, rfl, HA, HJ8, BK105, HB⟩ := hcut
          cases kq with
          | zero => exact absurd HA.out (by simp [wire_Right.j1])
          | succ kj8 =>
            have H := HA.out
            clear HA
            simp only [wire_Right.j1] at H
            have HC17 := Aside0.mk H
            clear H
            go_upto_region 4 with (fail)
            go_cut [4] (fun v4 wc => ∃ (kq : Nat) (x4_16 : Bool), v4 = .bool x4_16 ∧ Aside0 (wire_Right.j2 kq x3_8 x4_16 a0_0 a0_1 a0_2 a0_3 a0_4 a0_5 = some r) ∧ Aside0 (kq ≤ kj8) ∧ Aside0 (wc.heap[gb105]? = some (.cells #[.int .i64 a0_0, .int .i64 a0_1, .int .i64 a0_2, .int .i64 a0_3, .int .i64 a0_4, .string a0_5] 31 (0, 0))) ∧ Aside0 (Below w.heap.size w wc))
            case first =>
              have H := HC17.out
              clear HC17
              by_cases c18 : a0_2 = 0
              · rw [if_pos c18] at H
                have c18b0 : (a0_2 == 0) = true := beq_iff_eq.mpr c18
                have c18b1 : (a0_2 != 0) = false := bne_eq_false_iff_eq.mpr c18
                clear c18
                (first | rw [c18b0] | (simp only [i64_w, i32_w]; rw [c18b0]) | skip)
                have H' := Aside0.mk H
                clear H
                have hcz19_0 : wc.cell? ⟨gb105, 0, none⟩ = some (.int .i64 a0_0) := (blk_cell BK105.out 0).trans rfl
                have hcz19_1 : wc.cell? ⟨gb105, 1, none⟩ = some (.int .i64 a0_1) := (blk_cell BK105.out 1).trans rfl
                have hcz19_2 : wc.cell? ⟨gb105, 2, none⟩ = some (.int .i64 a0_2) := (blk_cell BK105.out 2).trans rfl
                have hcz19_3 : wc.cell? ⟨gb105, 3, none⟩ = some (.int .i64 a0_3) := (blk_cell BK105.out 3).trans rfl
                have hcz19_4 : wc.cell? ⟨gb105, 4, none⟩ = some (.int .i64 a0_4) := (blk_cell BK105.out 4).trans rfl
                have hcz19_5 : wc.cell? ⟨gb105, 5, none⟩ = some (.string a0_5) := (blk_cell BK105.out 5).trans rfl
                have hfz19_0 := blk_frozen BK105.out 0
                have hfz19_1 := blk_frozen BK105.out 1
                have hfz19_2 := blk_frozen BK105.out 2
                have hfz19_3 := blk_frozen BK105.out 3
                have hfz19_4 := blk_frozen BK105.out 4
                have hfz19_5 := blk_frozen BK105.out 5
                go_wp2
                go_meet
                case rel => exact ⟨_, ((a0_4 == 0)), (by first | rfl | (simp; done) | (simp [*]; done)), H', ⟨by have := HJ1.out; have := HJ8.out; first | omega | exact Nat.le_refl _⟩, ⟨by (with_reducible repeat (first | refine blk_drewN ?_ _ | refine blk_drew ?_ | refine blk_alloc ?_ _)); exact BK105.out⟩, ⟨by repeat (first | (with_reducible first | exact HB.out | apply below_alloc | apply pw_below_drewN | apply below_drew1 | refine below_set ?_ GE105.out) | exact HB.out)⟩⟩
              · rw [if_neg c18] at H
                have c18b0 : (a0_2 == 0) = false := beq_eq_false_iff_ne.mpr c18
                have c18b1 : (a0_2 != 0) = true := bne_iff_ne.mpr c18
                (first | rw [c18b0] | (simp only [i64_w, i32_w]; rw [c18b0]) | skip)
                have H' := Aside0.mk H
                clear H
                have hcz20_0 : wc.cell? ⟨gb105, 0, none⟩ = some (.int .i64 a0_0) := (blk_cell BK105.out 0).trans rfl
                have hcz20_1 : wc.cell? ⟨gb105, 1, none⟩ = some (.int .i64 a0_1) := (blk_cell BK105.out 1).trans rfl
                have hcz20_2 : wc.cell? ⟨gb105, 2, none⟩ = some (.int .i64 a0_2) := (blk_cell BK105.out 2).trans rfl
                have hcz20_3 : wc.cell? ⟨gb105, 3, none⟩ = some (.int .i64 a0_3) := (blk_cell BK105.out 3).trans rfl
                have hcz20_4 : wc.cell? ⟨gb105, 4, none⟩ = some (.int .i64 a0_4) := (blk_cell BK105.out 4).trans rfl
                have hcz20_5 : wc.cell? ⟨gb105, 5, none⟩ = some (.string a0_5) := (blk_cell BK105.out 5).trans rfl
                have hfz20_0 := blk_frozen BK105.out 0
                have hfz20_1 := blk_frozen BK105.out 1
                have hfz20_2 := blk_frozen BK105.out 2
                have hfz20_3 := blk_frozen BK105.out 3
                have hfz20_4 := blk_frozen BK105.out 4
                have hfz20_5 := blk_frozen BK105.out 5
                go_wp2
                go_meet
                case rel => exact ⟨_, (false), (by first | rfl | (simp; done) | (simp [*]; done)), H', ⟨by have := HJ1.out; have := HJ8.out; first | omega | exact Nat.le_refl _⟩, ⟨by (with_reducible repeat (first | refine blk_drewN ?_ _ | refine blk_drew ?_ | refine blk_alloc ?_ _)); exact BK105.out⟩, ⟨by repeat (first | (with_reducible first | exact HB.out | apply below_alloc | apply pw_below_drewN | apply below_drew1 | refine below_set ?_ GE105.out) | exact HB.out)⟩⟩
            case rest =>
              clear HC17
              try clear c1
              try clear c2
              try clear p2
              try clear c5
              try clear c8
              try clear c10
              try clear c10b0
              try clear c10b1
              try clear c12
              try clear c18
              try clear c18b0
              try clear c18b1
              try clear c19
              try clear hcz14_0
              try clear hcz14_1
              try clear hcz14_2
              try clear hcz14_3
              try clear hcz14_4
              try clear hcz14_5
              try clear hcz15_0
              try clear hcz15_1
              try clear hcz15_2
              try clear hcz15_3
              try clear hcz15_4
              try clear hcz15_5
              try clear hcz16_0
              try clear hcz16_1
              try clear hcz16_2
              try clear hcz16_3
              try clear hcz16_4
              try clear hcz16_5
              try clear hcz19_0
              try clear hcz19_1
              try clear hcz19_2
              try clear hcz19_3
              try clear hcz19_4
              try clear hcz19_5
              try clear hcz20_0
              try clear hcz20_1
              try clear hcz20_2
              try clear hcz20_3
              try clear hcz20_4
              try clear hcz20_5
              try clear hcz6_0
              try clear hcz6_1
              try clear hcz6_2
              try clear hcz6_3
              try clear hcz6_4
              try clear hcz6_5
              try clear hcz7_0
              try clear hcz7_1
              try clear hcz7_2
              try clear hcz7_3
              try clear hcz7_4
              try clear hcz7_5
              try clear hfz14_0
              try clear hfz14_1
              try clear hfz14_2
              try clear hfz14_3
              try clear hfz14_4
              try clear hfz14_5
              try clear hfz15_0
              try clear hfz15_1
              try clear hfz15_2
              try clear hfz15_3
              try clear hfz15_4
              try clear hfz15_5
              try clear hfz16_0
              try clear hfz16_1
              try clear hfz16_2
              try clear hfz16_3
              try clear hfz16_4
              try clear hfz16_5
              try clear hfz19_0
              try clear hfz19_1
              try clear hfz19_2
              try clear hfz19_3
              try clear hfz19_4
              try clear hfz19_5
              try clear hfz20_0
              try clear hfz20_1
              try clear hfz20_2
              try clear hfz20_3
              try clear hfz20_4
              try clear hfz20_5
              try clear hfz6_0
              try clear hfz6_1
              try clear hfz6_2
              try clear hfz6_3
              try clear hfz6_4
              try clear hfz6_5
              try clear hfz7_0
              try clear hfz7_1
              try clear hfz7_2
              try clear hfz7_3
              try clear hfz7_4
              try clear hfz7_5
              try clear p2
              obtain ⟨kq, x4_16, rfl, HA, HJ16, BK105, HB⟩ := hcut
              cases kq with
              | zero => exact absurd HA.out (by simp [wire_Right.j2])
              | succ kj16 =>
                have H := HA.out
                clear HA
                simp only [wire_Right.j2] at H
                have HC21 := Aside0.mk H
                clear H
                have hcz22_0 : wc.cell? ⟨gb105, 0, none⟩ = some (.int .i64 a0_0) := (blk_cell BK105.out 0).trans rfl
                have hcz22_1 : wc.cell? ⟨gb105, 1, none⟩ = some (.int .i64 a0_1) := (blk_cell BK105.out 1).trans rfl
                have hcz22_2 : wc.cell? ⟨gb105, 2, none⟩ = some (.int .i64 a0_2) := (blk_cell BK105.out 2).trans rfl
                have hcz22_3 : wc.cell? ⟨gb105, 3, none⟩ = some (.int .i64 a0_3) := (blk_cell BK105.out 3).trans rfl
                have hcz22_4 : wc.cell? ⟨gb105, 4, none⟩ = some (.int .i64 a0_4) := (blk_cell BK105.out 4).trans rfl
                have hcz22_5 : wc.cell? ⟨gb105, 5, none⟩ = some (.string a0_5) := (blk_cell BK105.out 5).trans rfl
                have hfz22_0 := blk_frozen BK105.out 0
                have hfz22_1 := blk_frozen BK105.out 1
                have hfz22_2 := blk_frozen BK105.out 2
                have hfz22_3 := blk_frozen BK105.out 3
                have hfz22_4 := blk_frozen BK105.out 4
                have hfz22_5 := blk_frozen BK105.out 5
                go_upto_if 38 with (fail)
                go_cut [38] (fun v38 wc => ∃ (kq : Nat) (x38_20 : Bool), v38 = .bool x38_20 ∧ Aside0 (wire_Right.j3 kq x3_8 x4_16 a0_1 x38_20 a0_0 a0_1 a0_2 a0_3 a0_4 a0_5 = some r) ∧ Aside0 (kq ≤ kj16) ∧ Aside0 (wc.heap[gb105]? = some (.cells #[.int .i64 a0_0, .int .i64 a0_1, .int .i64 a0_2, .int .i64 a0_3, .int .i64 a0_4, .string a0_5] 31 (0, 0))) ∧ Aside0 (Below w.heap.size w wc))
                case first =>
                  have H := HC21.out
                  clear HC21
                  by_cases c23 : a0_1 = 8
                  · rw [if_pos c23] at H
                    have c23b0 : (a0_1 == 8) = true := beq_iff_eq.mpr c23
                    have c23b1 : (a0_1 != 8) = false := bne_eq_false_iff_eq.mpr c23
                    clear c23
                    (first | rw [c23b0] | (simp only [i64_w, i32_w]; rw [c23b0]) | skip)
                    have H' := Aside0.mk H
                    clear H
                    go_wp2
                    go_meet
                    case rel => exact ⟨_, ((a0_1 == 8)), (by first | rfl | (simp; done) | (simp [*]; done)), H', ⟨by have := HJ1.out; have := HJ8.out; have := HJ16.out; first | omega | exact Nat.le_refl _⟩, ⟨by (with_reducible repeat (first | refine blk_drewN ?_ _ | refine blk_drew ?_ | refine blk_alloc ?_ _)); exact BK105.out⟩, ⟨by repeat (first | (with_reducible first | exact HB.out | apply below_alloc | apply pw_below_drewN | apply below_drew1 | refine below_set ?_ GE105.out) | exact HB.out)⟩⟩
                  · rw [if_neg c23] at H
                    have c23b0 : (a0_1 == 8) = false := beq_eq_false_iff_ne.mpr c23
                    have c23b1 : (a0_1 != 8) = true := bne_iff_ne.mpr c23
                    (first | rw [c23b0] | (simp only [i64_w, i32_w]; rw [c23b0]) | skip)
                    by_cases c24 : a0_1 = 9
                    · rw [if_pos c24] at H
                      have c24b0 : (a0_1 == 9) = true := beq_iff_eq.mpr c24
                      have c24b1 : (a0_1 != 9) = false := bne_eq_false_iff_eq.mpr c24
                      clear c24
                      have H' := Aside0.mk H
                      clear H
                      go_wp2
                      go_meet
                      case rel => exact ⟨_, ((a0_1 == 9)), (by first | rfl | (simp; done) | (simp [*]; done)), H', ⟨by have := HJ1.out; have := HJ8.out; have := HJ16.out; first | omega | exact Nat.le_refl _⟩, ⟨by (with_reducible repeat (first | refine blk_drewN ?_ _ | refine blk_drew ?_ | refine blk_alloc ?_ _)); exact BK105.out⟩, ⟨by repeat (first | (with_reducible first | exact HB.out | apply below_alloc | apply pw_below_drewN | apply below_drew1 | refine below_set ?_ GE105.out) | exact HB.out)⟩⟩
                    · rw [if_neg c24] at H
                      have c24b0 : (a0_1 == 9) = false := beq_eq_false_iff_ne.mpr c24
                      have c24b1 : (a0_1 != 9) = true := bne_iff_ne.mpr c24
                      by_cases c25 : a0_1 = 10
                      · rw [if_pos c25] at H
                        have c25b0 : (a0_1 == 10) = true := beq_iff_eq.mpr c25
                        have c25b1 : (a0_1 != 10) = false := bne_eq_false_iff_eq.mpr c25
                        clear c25
                        have H' := Aside0.mk H
                        clear H
                        go_wp2
                        go_meet
                        case rel => exact ⟨_, ((a0_1 == 10)), (by first | rfl | (simp; done) | (simp [*]; done)), H', ⟨by have := HJ1.out; have := HJ8.out; have := HJ16.out; first | omega | exact Nat.le_refl _⟩, ⟨by (with_reducible repeat (first | refine blk_drewN ?_ _ | refine blk_drew ?_ | refine blk_alloc ?_ _)); exact BK105.out⟩, ⟨by repeat (first | (with_reducible first | exact HB.out | apply below_alloc | apply pw_below_drewN | apply below_drew1 | refine below_set ?_ GE105.out) | exact HB.out)⟩⟩
                      · rw [if_neg c25] at H
                        have c25b0 : (a0_1 == 10) = false := beq_eq_false_iff_ne.mpr c25
                        have c25b1 : (a0_1 != 10) = true := bne_iff_ne.mpr c25
                        by_cases c26 : a0_1 = 11
                        · rw [if_pos c26] at H
                          have c26b0 : (a0_1 == 11) = true := beq_iff_eq.mpr c26
                          have c26b1 : (a0_1 != 11) = false := bne_eq_false_iff_eq.mpr c26
                          clear c26
                          have H' := Aside0.mk H
                          clear H
                          go_wp2
                          go_meet
                          case rel => exact ⟨_, ((a0_1 == 11)), (by first | rfl | (simp; done) | (simp [*]; done)), H', ⟨by have := HJ1.out; have := HJ8.out; have := HJ16.out; first | omega | exact Nat.le_refl _⟩, ⟨by (with_reducible repeat (first | refine blk_drewN ?_ _ | refine blk_drew ?_ | refine blk_alloc ?_ _)); exact BK105.out⟩, ⟨by repeat (first | (with_reducible first | exact HB.out | apply below_alloc | apply pw_below_drewN | apply below_drew1 | refine below_set ?_ GE105.out) | exact HB.out)⟩⟩
                        · rw [if_neg c26] at H
                          have c26b0 : (a0_1 == 11) = false := beq_eq_false_iff_ne.mpr c26
                          have c26b1 : (a0_1 != 11) = true := bne_iff_ne.mpr c26
                          have H' := Aside0.mk H
                          clear H
                          go_wp2
                          go_meet
                          case rel => exact ⟨_, ((a0_1 == 14)), (by first | rfl | (simp; done) | (simp [*]; done)), H', ⟨by have := HJ1.out; have := HJ8.out; have := HJ16.out; first | omega | exact Nat.le_refl _⟩, ⟨by (with_reducible repeat (first | refine blk_drewN ?_ _ | refine blk_drew ?_ | refine blk_alloc ?_ _)); exact BK105.out⟩, ⟨by repeat (first | (with_reducible first | exact HB.out | apply below_alloc | apply pw_below_drewN | apply below_drew1 | refine below_set ?_ GE105.out) | exact HB.out)⟩⟩
                case rest =>
                  clear HC21
                  try clear c1
                  try clear c2
                  try clear p2
                  try clear c5
                  try clear c8
                  try clear c10
                  try clear c10b0
                  try clear c10b1
                  try clear c12
                  try clear c18
                  try clear c18b0
                  try clear c18b1
                  try clear c19
                  try clear c23
                  try clear c23b0
                  try clear c23b1
                  try clear c24
                  try clear c24b0
                  try clear c24b1
                  try clear c25
                  try clear c25b0
                  try clear c25b1
                  try clear c26
                  try clear c26b0
                  try clear c26b1
                  try clear hcz14_0
                  try clear hcz14_1
                  try clear hcz14_2
                  try clear hcz14_3
                  try clear hcz14_4
                  try clear hcz14_5
                  try clear hcz15_0
                  try clear hcz15_1
                  try clear hcz15_2
                  try clear hcz15_3
                  try clear hcz15_4
                  try clear hcz15_5
                  try clear hcz16_0
                  try clear hcz16_1
                  try clear hcz16_2
                  try clear hcz16_3
                  try clear hcz16_4
                  try clear hcz16_5
                  try clear hcz19_0
                  try clear hcz19_1
                  try clear hcz19_2
                  try clear hcz19_3
                  try clear hcz19_4
                  try clear hcz19_5
                  try clear hcz20_0
                  try clear hcz20_1
                  try clear hcz20_2
                  try clear hcz20_3
                  try clear hcz20_4
                  try clear hcz20_5
                  try clear hcz22_0
                  try clear hcz22_1
                  try clear hcz22_2
                  try clear hcz22_3
                  try clear hcz22_4
                  try clear hcz22_5
                  try clear hcz6_0
                  try clear hcz6_1
                  try clear hcz6_2
                  try clear hcz6_3
                  try clear hcz6_4
                  try clear hcz6_5
                  try clear hcz7_0
                  try clear hcz7_1
                  try clear hcz7_2
                  try clear hcz7_3
                  try clear hcz7_4
                  try clear hcz7_5
                  try clear hfz14_0
                  try clear hfz14_1
                  try clear hfz14_2
                  try clear hfz14_3
                  try clear hfz14_4
                  try clear hfz14_5
                  try clear hfz15_0
                  try clear hfz15_1
                  try clear hfz15_2
                  try clear hfz15_3
                  try clear hfz15_4
                  try clear hfz15_5
                  try clear hfz16_0
                  try clear hfz16_1
                  try clear hfz16_2
                  try clear hfz16_3
                  try clear hfz16_4
                  try clear hfz16_5
                  try clear hfz19_0
                  try clear hfz19_1
                  try clear hfz19_2
                  try clear hfz19_3
                  try clear hfz19_4
                  try clear hfz19_5
                  try clear hfz20_0
                  try clear hfz20_1
                  try clear hfz20_2
                  try clear hfz20_3
                  try clear hfz20_4
                  try clear hfz20_5
                  try clear hfz22_0
                  try clear hfz22_1
                  try clear hfz22_2
                  try clear hfz22_3
                  try clear hfz22_4
                  try clear hfz22_5
                  try clear hfz6_0
                  try clear hfz6_1
                  try clear hfz6_2
                  try clear hfz6_3
                  try clear hfz6_4
                  try clear hfz6_5
                  try clear hfz7_0
                  try clear hfz7_1
                  try clear hfz7_2
                  try clear hfz7_3
                  try clear hfz7_4
                  try clear hfz7_5
                  try clear p2
                  obtain ⟨kq, x38_20, rfl, HA, HJ20, BK105, HB⟩ := hcut
                  cases kq with
                  | zero => exact absurd HA.out (by simp [wire_Right.j3])
                  | succ kj20 =>
                    have H := HA.out
                    clear HA
                    simp only [wire_Right.j3] at H
                    by_cases c27 : x38_20 = true
                    · subst c27
                      have H1 : (if x3_8 = true then ((wire_within.f a0_4 0 127).bind fun t109 => (some t109)) else (some false)) = some r := by rw [if_pos rfl] at H; exact H
                      clear H
                      have H := H1
                      clear H1
                      by_cases c28 : x3_8 = true
                      · subst c28
                        have H1 : ((wire_within.f a0_4 0 127).bind fun t109 => (some t109)) = some r := by rw [if_pos rfl] at H; exact H
                        clear H
                        have H := H1
                        clear H1
                        replace H := Option.bind_eq_some_iff.mp H
                        obtain ⟨t109, A290, H⟩ := H
                        replace H : (some t109) = some r := H
                        have A29 := Aside0.mk A290
                        clear A290
                        obtain rfl := Option.some.inj H
                        have hcz30_0 : wc.cell? ⟨gb105, 0, none⟩ = some (.int .i64 a0_0) := (blk_cell BK105.out 0).trans rfl
                        have hcz30_1 : wc.cell? ⟨gb105, 1, none⟩ = some (.int .i64 a0_1) := (blk_cell BK105.out 1).trans rfl
                        have hcz30_2 : wc.cell? ⟨gb105, 2, none⟩ = some (.int .i64 a0_2) := (blk_cell BK105.out 2).trans rfl
                        have hcz30_3 : wc.cell? ⟨gb105, 3, none⟩ = some (.int .i64 a0_3) := (blk_cell BK105.out 3).trans rfl
                        have hcz30_4 : wc.cell? ⟨gb105, 4, none⟩ = some (.int .i64 a0_4) := (blk_cell BK105.out 4).trans rfl
                        have hcz30_5 : wc.cell? ⟨gb105, 5, none⟩ = some (.string a0_5) := (blk_cell BK105.out 5).trans rfl
                        have hfz30_0 := blk_frozen BK105.out 0
                        have hfz30_1 := blk_frozen BK105.out 1
                        have hfz30_2 := blk_frozen BK105.out 2
                        have hfz30_3 := blk_frozen BK105.out 3
                        have hfz30_4 := blk_frozen BK105.out 4
                        have hfz30_5 := blk_frozen BK105.out 5
                        go_wp2_with (first | (go_at_call 29; (with_reducible refine (wire_within.calls a0_4 0 127 t109 _ A29.out).mono ?_); rintro e w' ⟨rfl, ⟨nd, rfl⟩⟩))
                        go_ret
                        exact ⟨by first | rfl | (simp [errW_none, errW_some] <;> rfl) | (simp [*, errW_none, errW_some] <;> rfl), by repeat (first | (with_reducible first | exact HB.out | apply below_alloc | apply pw_below_drewN | apply below_drew1 | refine below_set ?_ GE105.out) | exact HB.out)⟩
                      · replace c28 := Bool.eq_false_iff.mpr c28
                        subst c28
                        have H1 : (some false) = some r := by rw [if_neg (show ¬ (false = true) by decide)] at H; exact H
                        clear H
                        have H := H1
                        clear H1
                        obtain rfl := Option.some.inj H
                        go_wp2
                        go_ret
                        exact ⟨by first | rfl | (simp [errW_none, errW_some] <;> rfl) | (simp [*, errW_none, errW_some] <;> rfl), by repeat (first | (with_reducible first | exact HB.out | apply below_alloc | apply pw_below_drewN | apply below_drew1 | refine below_set ?_ GE105.out) | exact HB.out)⟩
                    · replace c27 := Bool.eq_false_iff.mpr c27
                      subst c27
                      have H1 : (if a0_1 = 12 then (wire_Right.j4 kj20 x3_8 x4_16 a0_1 (a0_1 == 12) a0_0 a0_1 a0_2 a0_3 a0_4 a0_5) else (wire_Right.j4 kj20 x3_8 x4_16 a0_1 (a0_1 == 13) a0_0 a0_1 a0_2 a0_3 a0_4 a0_5)) = some r := by rw [if_neg (show ¬ (false = true) by decide)] at H; exact H
                      clear H
                      have H := H1
                      clear H1
                      have HC31 := Aside0.mk H
                      clear H
                      go_upto_if 50 with (fail)
                      go_cut [50] (fun v50 wc => ∃ (kq : Nat) (x50_30 : Bool), v50 = .bool x50_30 ∧ Aside0 (wire_Right.j4 kq x3_8 x4_16 a0_1 x50_30 a0_0 a0_1 a0_2 a0_3 a0_4 a0_5 = some r) ∧ Aside0 (kq ≤ kj20) ∧ Aside0 (wc.heap[gb105]? = some (.cells #[.int .i64 a0_0, .int .i64 a0_1, .int .i64 a0_2, .int .i64 a0_3, .int .i64 a0_4, .string a0_5] 31 (0, 0))) ∧ Aside0 (Below w.heap.size w wc))
                      case first =>
                        have H := HC31.out
                        clear HC31
                        by_cases c32 : a0_1 = 12
                        · rw [if_pos c32] at H
                          have c32b0 : (a0_1 == 12) = true := beq_iff_eq.mpr c32
                          have c32b1 : (a0_1 != 12) = false := bne_eq_false_iff_eq.mpr c32
                          clear c32
                          (first | rw [c32b0] | (simp only [i64_w, i32_w]; rw [c32b0]) | skip)
                          have H' := Aside0.mk H
                          clear H
                          go_wp2
                          go_meet
                          case rel => exact ⟨_, ((a0_1 == 12)), (by first | rfl | (simp; done) | (simp [*]; done)), H', ⟨by have := HJ1.out; have := HJ8.out; have := HJ16.out; have := HJ20.out; first | omega | exact Nat.le_refl _⟩, ⟨by (with_reducible repeat (first | refine blk_drewN ?_ _ | refine blk_drew ?_ | refine blk_alloc ?_ _)); exact BK105.out⟩, ⟨by repeat (first | (with_reducible first | exact HB.out | apply below_alloc | apply pw_below_drewN | apply below_drew1 | refine below_set ?_ GE105.out) | exact HB.out)⟩⟩
                        · rw [if_neg c32] at H
                          have c32b0 : (a0_1 == 12) = false := beq_eq_false_iff_ne.mpr c32
                          have c32b1 : (a0_1 != 12) = true := bne_iff_ne.mpr c32
                          (first | rw [c32b0] | (simp only [i64_w, i32_w]; rw [c32b0]) | skip)
                          have H' := Aside0.mk H
                          clear H
                          go_wp2
                          go_meet
                          case rel => exact ⟨_, ((a0_1 == 13)), (by first | rfl | (simp; done) | (simp [*]; done)), H', ⟨by have := HJ1.out; have := HJ8.out; have := HJ16.out; have := HJ20.out; first | omega | exact Nat.le_refl _⟩, ⟨by (with_reducible repeat (first | refine blk_drewN ?_ _ | refine blk_drew ?_ | refine blk_alloc ?_ _)); exact BK105.out⟩, ⟨by repeat (first | (with_reducible first | exact HB.out | apply below_alloc | apply pw_below_drewN | apply below_drew1 | refine below_set ?_ GE105.out) | exact HB.out)⟩⟩
                      case rest =>
                        clear HC31
                        try clear c1
                        try clear c2
                        try clear p2
                        try clear c3
                        try clear c5
                        try clear c8
                        try clear c10
                        try clear c10b0
                        try clear c10b1
                        try clear c12
                        try clear c18
                        try clear c18b0
                        try clear c18b1
                        try clear c19
                        try clear c23
                        try clear c23b0
                        try clear c23b1
                        try clear c24
                        try clear c24b0
                        try clear c24b1
                        try clear c25
                        try clear c25b0
                        try clear c25b1
                        try clear c26
                        try clear c26b0
                        try clear c26b1
                        try clear c27
                        try clear c28
                        try clear c32
                        try clear c32b0
                        try clear c32b1
                        try clear hcz14_0
                        try clear hcz14_1
                        try clear hcz14_2
                        try clear hcz14_3
                        try clear hcz14_4
                        try clear hcz14_5
                        try clear hcz15_0
                        try clear hcz15_1
                        try clear hcz15_2
                        try clear hcz15_3
                        try clear hcz15_4
                        try clear hcz15_5
                        try clear hcz16_0
                        try clear hcz16_1
                        try clear hcz16_2
                        try clear hcz16_3
                        try clear hcz16_4
                        try clear hcz16_5
                        try clear hcz19_0
                        try clear hcz19_1
                        try clear hcz19_2
                        try clear hcz19_3
                        try clear hcz19_4
                        try clear hcz19_5
                        try clear hcz20_0
                        try clear hcz20_1
                        try clear hcz20_2
                        try clear hcz20_3
                        try clear hcz20_4
                        try clear hcz20_5
                        try clear hcz22_0
                        try clear hcz22_1
                        try clear hcz22_2
                        try clear hcz22_3
                        try clear hcz22_4
                        try clear hcz22_5
                        try clear hcz30_0
                        try clear hcz30_1
                        try clear hcz30_2
                        try clear hcz30_3
                        try clear hcz30_4
                        try clear hcz30_5
                        try clear hcz6_0
                        try clear hcz6_1
                        try clear hcz6_2
                        try clear hcz6_3
                        try clear hcz6_4
                        try clear hcz6_5
                        try clear hcz7_0
                        try clear hcz7_1
                        try clear hcz7_2
                        try clear hcz7_3
                        try clear hcz7_4
                        try clear hcz7_5
                        try clear hfz14_0
                        try clear hfz14_1
                        try clear hfz14_2
                        try clear hfz14_3
                        try clear hfz14_4
                        try clear hfz14_5
                        try clear hfz15_0
                        try clear hfz15_1
                        try clear hfz15_2
                        try clear hfz15_3
                        try clear hfz15_4
                        try clear hfz15_5
                        try clear hfz16_0
                        try clear hfz16_1
                        try clear hfz16_2
                        try clear hfz16_3
                        try clear hfz16_4
                        try clear hfz16_5
                        try clear hfz19_0
                        try clear hfz19_1
                        try clear hfz19_2
                        try clear hfz19_3
                        try clear hfz19_4
                        try clear hfz19_5
                        try clear hfz20_0
                        try clear hfz20_1
                        try clear hfz20_2
                        try clear hfz20_3
                        try clear hfz20_4
                        try clear hfz20_5
                        try clear hfz22_0
                        try clear hfz22_1
                        try clear hfz22_2
                        try clear hfz22_3
                        try clear hfz22_4
                        try clear hfz22_5
                        try clear hfz30_0
                        try clear hfz30_1
                        try clear hfz30_2
                        try clear hfz30_3
                        try clear hfz30_4
                        try clear hfz30_5
                        try clear hfz6_0
                        try clear hfz6_1
                        try clear hfz6_2
                        try clear hfz6_3
                        try clear hfz6_4
                        try clear hfz6_5
                        try clear hfz7_0
                        try clear hfz7_1
                        try clear hfz7_2
                        try clear hfz7_3
                        try clear hfz7_4
                        try clear hfz7_5
                        try clear p2
                        obtain ⟨kq, x50_30, rfl, HA, HJ30, BK105, HB⟩ := hcut
                        cases kq with
                        | zero => exact absurd HA.out (by simp [wire_Right.j4])
                        | succ kj30 =>
                          have H := HA.out
                          clear HA
                          simp only [wire_Right.j4] at H
                          by_cases c33 : x50_30 = true
                          · subst c33
                            have H1 : (if x3_8 = true then (some (a0_4 == 0)) else (some false)) = some r := by rw [if_pos rfl] at H; exact H
                            clear H
                            have H := H1
                            clear H1
                            by_cases c34 : x3_8 = true
                            · subst c34
                              have H1 : (some (a0_4 == 0)) = some r := by rw [if_pos rfl] at H; exact H
                              clear H
                              have H := H1
                              clear H1
                              obtain rfl := Option.some.inj H
                              have hcz35_0 : wc.cell? ⟨gb105, 0, none⟩ = some (.int .i64 a0_0) := (blk_cell BK105.out 0).trans rfl
                              have hcz35_1 : wc.cell? ⟨gb105, 1, none⟩ = some (.int .i64 a0_1) := (blk_cell BK105.out 1).trans rfl
                              have hcz35_2 : wc.cell? ⟨gb105, 2, none⟩ = some (.int .i64 a0_2) := (blk_cell BK105.out 2).trans rfl
                              have hcz35_3 : wc.cell? ⟨gb105, 3, none⟩ = some (.int .i64 a0_3) := (blk_cell BK105.out 3).trans rfl
                              have hcz35_4 : wc.cell? ⟨gb105, 4, none⟩ = some (.int .i64 a0_4) := (blk_cell BK105.out 4).trans rfl
                              have hcz35_5 : wc.cell? ⟨gb105, 5, none⟩ = some (.string a0_5) := (blk_cell BK105.out 5).trans rfl
                              have hfz35_0 := blk_frozen BK105.out 0
                              have hfz35_1 := blk_frozen BK105.out 1
                              have hfz35_2 := blk_frozen BK105.out 2
                              have hfz35_3 := blk_frozen BK105.out 3
                              have hfz35_4 := blk_frozen BK105.out 4
                              have hfz35_5 := blk_frozen BK105.out 5
                              go_wp2
                              go_ret
                              exact ⟨by first | rfl | (simp [errW_none, errW_some] <;> rfl) | (simp [*, errW_none, errW_some] <;> rfl), by repeat (first | (with_reducible first | exact HB.out | apply below_alloc | apply pw_below_drewN | apply below_drew1 | refine below_set ?_ GE105.out) | exact HB.out)⟩
                            · replace c34 := Bool.eq_false_iff.mpr c34
                              subst c34
                              have H1 : (some false) = some r := by rw [if_neg (show ¬ (false = true) by decide)] at H; exact H
                              clear H
                              have H := H1
                              clear H1
                              obtain rfl := Option.some.inj H
                              go_wp2
                              go_ret
                              exact ⟨by first | rfl | (simp [errW_none, errW_some] <;> rfl) | (simp [*, errW_none, errW_some] <;> rfl), by repeat (first | (with_reducible first | exact HB.out | apply below_alloc | apply pw_below_drewN | apply below_drew1 | refine below_set ?_ GE105.out) | exact HB.out)⟩
                          · replace c33 := Bool.eq_false_iff.mpr c33
                            subst c33
                            have H1 : (if a0_1 = 15 then (if x4_16 = true then (if a0_3 = 240 then (some true) else (some (a0_3 == 247))) else (some false)) else (if a0_1 = 16 then (if x4_16 = true then ((wire_within.f a0_3 0 127).bind fun t110 => (some t110)) else (some false)) else (some false))) = some r := by rw [if_neg (show ¬ (false = true) by decide)] at H; exact H
                            clear H
                            have H := H1
                            clear H1
                            by_cases c36 : a0_1 = 15
                            · rw [if_pos c36] at H
                              have c36b0 : (a0_1 == 15) = true := beq_iff_eq.mpr c36
                              have c36b1 : (a0_1 != 15) = false := bne_eq_false_iff_eq.mpr c36
                              clear c36
                              by_cases c37 : x4_16 = true
                              · subst c37
                                have H1 : (if a0_3 = 240 then (some true) else (some (a0_3 == 247))) = some r := by rw [if_pos rfl] at H; exact H
                                clear H
                                have H := H1
                                clear H1
                                by_cases c38 : a0_3 = 240
                                · rw [if_pos c38] at H
                                  have c38b0 : (a0_3 == 240) = true := beq_iff_eq.mpr c38
                                  have c38b1 : (a0_3 != 240) = false := bne_eq_false_iff_eq.mpr c38
                                  clear c38
                                  obtain rfl := Option.some.inj H
                                  have hcz39_0 : wc.cell? ⟨gb105, 0, none⟩ = some (.int .i64 a0_0) := (blk_cell BK105.out 0).trans rfl
                                  have hcz39_1 : wc.cell? ⟨gb105, 1, none⟩ = some (.int .i64 a0_1) := (blk_cell BK105.out 1).trans rfl
                                  have hcz39_2 : wc.cell? ⟨gb105, 2, none⟩ = some (.int .i64 a0_2) := (blk_cell BK105.out 2).trans rfl
                                  have hcz39_3 : wc.cell? ⟨gb105, 3, none⟩ = some (.int .i64 a0_3) := (blk_cell BK105.out 3).trans rfl
                                  have hcz39_4 : wc.cell? ⟨gb105, 4, none⟩ = some (.int .i64 a0_4) := (blk_cell BK105.out 4).trans rfl
                                  have hcz39_5 : wc.cell? ⟨gb105, 5, none⟩ = some (.string a0_5) := (blk_cell BK105.out 5).trans rfl
                                  have hfz39_0 := blk_frozen BK105.out 0
                                  have hfz39_1 := blk_frozen BK105.out 1
                                  have hfz39_2 := blk_frozen BK105.out 2
                                  have hfz39_3 := blk_frozen BK105.out 3
                                  have hfz39_4 := blk_frozen BK105.out 4
                                  have hfz39_5 := blk_frozen BK105.out 5
                                  go_wp2
                                  go_ret
                                  exact ⟨by first | rfl | (simp [errW_none, errW_some] <;> rfl) | (simp [*, errW_none, errW_some] <;> rfl), by repeat (first | (with_reducible first | exact HB.out | apply below_alloc | apply pw_below_drewN | apply below_drew1 | refine below_set ?_ GE105.out) | exact HB.out)⟩
                                · rw [if_neg c38] at H
                                  have c38b0 : (a0_3 == 240) = false := beq_eq_false_iff_ne.mpr c38
                                  have c38b1 : (a0_3 != 240) = true := bne_iff_ne.mpr c38
                                  obtain rfl := Option.some.inj H
                                  have hcz40_0 : wc.cell? ⟨gb105, 0, none⟩ = some (.int .i64 a0_0) := (blk_cell BK105.out 0).trans rfl
                                  have hcz40_1 : wc.cell? ⟨gb105, 1, none⟩ = some (.int .i64 a0_1) := (blk_cell BK105.out 1).trans rfl
                                  have hcz40_2 : wc.cell? ⟨gb105, 2, none⟩ = some (.int .i64 a0_2) := (blk_cell BK105.out 2).trans rfl
                                  have hcz40_3 : wc.cell? ⟨gb105, 3, none⟩ = some (.int .i64 a0_3) := (blk_cell BK105.out 3).trans rfl
                                  have hcz40_4 : wc.cell? ⟨gb105, 4, none⟩ = some (.int .i64 a0_4) := (blk_cell BK105.out 4).trans rfl
                                  have hcz40_5 : wc.cell? ⟨gb105, 5, none⟩ = some (.string a0_5) := (blk_cell BK105.out 5).trans rfl
                                  have hfz40_0 := blk_frozen BK105.out 0
                                  have hfz40_1 := blk_frozen BK105.out 1
                                  have hfz40_2 := blk_frozen BK105.out 2
                                  have hfz40_3 := blk_frozen BK105.out 3
                                  have hfz40_4 := blk_frozen BK105.out 4
                                  have hfz40_5 := blk_frozen BK105.out 5
                                  go_wp2
                                  go_ret
                                  exact ⟨by first | rfl | (simp [errW_none, errW_some] <;> rfl) | (simp [*, errW_none, errW_some] <;> rfl), by repeat (first | (with_reducible first | exact HB.out | apply below_alloc | apply pw_below_drewN | apply below_drew1 | refine below_set ?_ GE105.out) | exact HB.out)⟩
                              · replace c37 := Bool.eq_false_iff.mpr c37
                                subst c37
                                have H1 : (some false) = some r := by rw [if_neg (show ¬ (false = true) by decide)] at H; exact H
                                clear H
                                have H := H1
                                clear H1
                                obtain rfl := Option.some.inj H
                                go_wp2
                                go_ret
                                exact ⟨by first | rfl | (simp [errW_none, errW_some] <;> rfl) | (simp [*, errW_none, errW_some] <;> rfl), by repeat (first | (with_reducible first | exact HB.out | apply below_alloc | apply pw_below_drewN | apply below_drew1 | refine below_set ?_ GE105.out) | exact HB.out)⟩
                            · rw [if_neg c36] at H
                              have c36b0 : (a0_1 == 15) = false := beq_eq_false_iff_ne.mpr c36
                              have c36b1 : (a0_1 != 15) = true := bne_iff_ne.mpr c36
                              by_cases c41 : a0_1 = 16
                              · rw [if_pos c41] at H
                                have c41b0 : (a0_1 == 16) = true := beq_iff_eq.mpr c41
                                have c41b1 : (a0_1 != 16) = false := bne_eq_false_iff_eq.mpr c41
                                clear c41
                                by_cases c42 : x4_16 = true
                                · subst c42
                                  have H1 : ((wire_within.f a0_3 0 127).bind fun t110 => (some t110)) = some r := by rw [if_pos rfl] at H; exact H
                                  clear H
                                  have H := H1
                                  clear H1
                                  replace H := Option.bind_eq_some_iff.mp H
                                  obtain ⟨t110, A430, H⟩ := H
                                  replace H : (some t110) = some r := H
                                  have A43 := Aside0.mk A430
                                  clear A430
                                  obtain rfl := Option.some.inj H
                                  have hcz44_0 : wc.cell? ⟨gb105, 0, none⟩ = some (.int .i64 a0_0) := (blk_cell BK105.out 0).trans rfl
                                  have hcz44_1 : wc.cell? ⟨gb105, 1, none⟩ = some (.int .i64 a0_1) := (blk_cell BK105.out 1).trans rfl
                                  have hcz44_2 : wc.cell? ⟨gb105, 2, none⟩ = some (.int .i64 a0_2) := (blk_cell BK105.out 2).trans rfl
                                  have hcz44_3 : wc.cell? ⟨gb105, 3, none⟩ = some (.int .i64 a0_3) := (blk_cell BK105.out 3).trans rfl
                                  have hcz44_4 : wc.cell? ⟨gb105, 4, none⟩ = some (.int .i64 a0_4) := (blk_cell BK105.out 4).trans rfl
                                  have hcz44_5 : wc.cell? ⟨gb105, 5, none⟩ = some (.string a0_5) := (blk_cell BK105.out 5).trans rfl
                                  have hfz44_0 := blk_frozen BK105.out 0
                                  have hfz44_1 := blk_frozen BK105.out 1
                                  have hfz44_2 := blk_frozen BK105.out 2
                                  have hfz44_3 := blk_frozen BK105.out 3
                                  have hfz44_4 := blk_frozen BK105.out 4
                                  have hfz44_5 := blk_frozen BK105.out 5
                                  go_wp2_with (first | (go_at_call 29; (with_reducible refine (wire_within.calls a0_3 0 127 t110 _ A43.out).mono ?_); rintro e w' ⟨rfl, ⟨nd, rfl⟩⟩))
                                  go_ret
                                  exact ⟨by first | rfl | (simp [errW_none, errW_some] <;> rfl) | (simp [*, errW_none, errW_some] <;> rfl), by repeat (first | (with_reducible first | exact HB.out | apply below_alloc | apply pw_below_drewN | apply below_drew1 | refine below_set ?_ GE105.out) | exact HB.out)⟩
                                · replace c42 := Bool.eq_false_iff.mpr c42
                                  subst c42
                                  have H1 : (some false) = some r := by rw [if_neg (show ¬ (false = true) by decide)] at H; exact H
                                  clear H
                                  have H := H1
                                  clear H1
                                  obtain rfl := Option.some.inj H
                                  go_wp2
                                  go_ret
                                  exact ⟨by first | rfl | (simp [errW_none, errW_some] <;> rfl) | (simp [*, errW_none, errW_some] <;> rfl), by repeat (first | (with_reducible first | exact HB.out | apply below_alloc | apply pw_below_drewN | apply below_drew1 | refine below_set ?_ GE105.out) | exact HB.out)⟩
                              · rw [if_neg c41] at H
                                have c41b0 : (a0_1 == 16) = false := beq_eq_false_iff_ne.mpr c41
                                have c41b1 : (a0_1 != 16) = true := bne_iff_ne.mpr c41
                                obtain rfl := Option.some.inj H
                                go_wp2
                                go_ret
                                exact ⟨by first | rfl | (simp [errW_none, errW_some] <;> rfl) | (simp [*, errW_none, errW_some] <;> rfl), by repeat (first | (with_reducible first | exact HB.out | apply below_alloc | apply pw_below_drewN | apply below_drew1 | refine below_set ?_ GE105.out) | exact HB.out)⟩

end Go.Proofs.Ytmeefdaanjaoaaa.M
