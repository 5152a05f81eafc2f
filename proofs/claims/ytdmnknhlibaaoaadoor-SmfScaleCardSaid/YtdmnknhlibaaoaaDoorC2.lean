/- Functions and contracts printed by a program of this session (wip/tools), and texts by hand: Print, Parse, and the plain answers (part 2). -/
import Derived.Lib.SlBytesConst
import Derived.Laws.BitsLemmas
import Derived.Lib.ConvBytes
import Derived.Test.YtdmnknhlibaaoaaDoorCW
import Derived.Test.YtdmnknhlibaaoaaDoorC1
namespace Go.Proofs.YtdmnknhlibaaoaaDoor.M
open Go.RowKit Go.Proofs.YtdmnknhlibaaoaaDoorW.PrintWords Go.Proofs.YtdmnknhlibaaoaaDoorW.PrintLast Go.Proofs.YtdmnknhlibaaoaaDoorW.PrintMore
attribute [local go_sem] max2_int min2_int max_two min_two max_three min_three max_four min_four
set_option linter.unusedVariables false
set_option linter.unusedSimpArgs false
def api_Midi_45.l0 : Nat → List (S39) → Int → Int → Option (Int)
  | 0, _, _, _ => none
  | k + 1, x0, x7, x8 => if x8 < x7 then (if 0 ≤ x8 then (if x8 < (x0.length : Int) then ((smf_last.f ((rd_T39 x0 x8).f0) ((rd_T39 x0 x8).f1) ((rd_T39 x0 x8).f2) ((rd_T39 x0 x8).f3) ((rd_T39 x0 x8).f4) ((rd_T39 x0 x8).f5)).bind fun t102 => (if t102 = true then (some x8) else (api_Midi_45.l0 k x0 x7 (wrap64 (x8 + 1))))) else (none)) else (none)) else (some (-1))
def api_Midi_45.f (k : Nat) (l0 : List (S39)) : Option (Int) := api_Midi_45.l0 k l0 (l0.length : Int) 0
theorem api_Midi_45.mono_l : ∀ k, (∀ y0 y1 y2, LeO (api_Midi_45.l0 k y0 y1 y2) (api_Midi_45.l0 (k + 1) y0 y1 y2))
  | 0 => fun _ _ _ r h => by simp [api_Midi_45.l0] at h
  | k + 1 => by
    have ih0 := api_Midi_45.mono_l k
    · intro y0 y1 y2
      unfold api_Midi_45.l0
      repeat' first
      | (with_reducible exact ih0 _ _ _)
      | (with_reducible exact LeO.refl _)
      | (with_reducible exact LeO.none _)
      | (with_reducible refine LeO.ite ?_ ?_)
      | (with_reducible refine LeO.bind ?_ (fun _ => ?_))
      | exact ih0 _ _ _
      | exact LeO.none _
      | refine LeO.ite ?_ ?_
      | refine LeO.bind ?_ (fun _ => ?_)
theorem api_Midi_45.mono : ∀ a0 k, LeO (api_Midi_45.f k a0) (api_Midi_45.f (k + 1) a0) := by
  intro a0 k
  have ih0 := api_Midi_45.mono_l k
  unfold api_Midi_45.f
  repeat' first
      | (with_reducible exact ih0 _ _ _)
      | (with_reducible exact LeO.refl _)
      | (with_reducible exact LeO.none _)
      | (with_reducible refine LeO.ite ?_ ?_)
      | (with_reducible refine LeO.bind ?_ (fun _ => ?_))
      | exact ih0 _ _ _
      | exact LeO.none _
      | refine LeO.ite ?_ ?_
      | refine LeO.bind ?_ (fun _ => ?_)
set_option maxHeartbeats 8000000 in
set_option maxRecDepth 100000 in
theorem api_Midi_45.calls (k : Nat) (A0 : Option Addr) (c0 : Nat) (l0 : List (S39)) (r : Int) (w : World) (hr0 : Kd.C k39 w A0 l0.length l0) (hc0 : l0.length ≤ c0) (h : api_Midi_45.f k l0 = some r) :
    Calls Tryd.prog 45 #[.slice A0 l0.length c0, .func (.func 46) #[] #[]] w fun e w' => e = .returned (.int .i64 r) ∧ Below w.heap.size w w' := by
  have hu39 := Tryd.underlying39
  have HR0 := Aside0.mk hr0
  have HC0 := Aside0.mk hc0
  clear hr0 hc0
  have HB := Aside0.mk (Below.refl w.heap.size w)
  have H := h
  unfold api_Midi_45.f at H
  clear h
  have H' := Aside0.mk H
  clear H
  go_enter Tryd.func45, Tryd.ntmps45
  go_wp2
  go_loopg [8] k (fun kq v8 w' => ∃ (x8_1 : Int), v8 = .int .i64 x8_1 ∧ Aside0 (api_Midi_45.l0 kq l0 (l0.length : Int) x8_1 = some r) ∧ Aside0 (kq ≤ k) ∧ Aside0 (Below w.heap.size w w'))
  case atStart => exact ⟨(0), qq6, H', ⟨Nat.le_refl _⟩, ⟨qB HB.out⟩⟩
  case round =>
    clear H'
    obtain ⟨x8_1, rfl, HA, HK1, HB⟩ := hrel
    cases gk with
    | zero => exact absurd HA.out (by simp [api_Midi_45.l0])
    | succ k1 =>
      have H := HA.out
      clear HA
      simp only [api_Midi_45.l0] at H
      by_cases c2 : x8_1 < (l0.length : Int)
      rotate_left
      · rw [if_neg c2] at H
        have c2b0 : decide (x8_1 < (l0.length : Int)) = false := decide_eq_false c2
        clear c2
        obtain rfl := Option.some.inj H
        go_wp2
        go_ret
        exact ⟨qq4, qB HB.out⟩
      rw [if_pos c2] at H
      have c2b0 : decide (x8_1 < (l0.length : Int)) = true := decide_eq_true c2
      clear c2
      by_cases c3 : 0 ≤ x8_1
      rotate_left
      · rw [if_neg c3] at H
        exact absurd H (by simp)
      rw [if_pos c3] at H
      have c3b0 : decide (0 ≤ x8_1) = true := decide_eq_true c3
      clear c3
      by_cases c4 : x8_1 < (l0.length : Int)
      rotate_left
      · rw [if_neg c4] at H
        exact absurd H (by simp)
      rw [if_pos c4] at H
      have c4b0 : decide (x8_1 < (l0.length : Int)) = true := decide_eq_true c4
      clear c4
      replace H := Option.bind_eq_some_iff.mp H
      obtain ⟨t102, A50, H⟩ := H
      try dsimp -simprocs only at H
      have A5 := Aside0.mk A50
      clear A50
      by_cases c6 : t102 = true
      · subst c6
        have H1 : (some x8_1) = some r := by rw [if_pos rfl] at H; exact H
        clear H
        have H := H1
        clear H1
        obtain rfl := Option.some.inj H
        have p101 : 0 ≤ (x8_1 : Int) := of_decide_eq_true qq3
        have q101 : x8_1 < (l0.length : Int) := of_decide_eq_true qq3
        obtain ⟨ad101, e101, hx101_0, hx101_1, hx101_2, hx101_3, hx101_4, hx101_5⟩ := at_T39 HR0.out x8_1 p101 q101
        cases e101
        replace hx101_0 := (HB.out.cell (World.block_lt_of_cell? w _ hx101_0)).trans hx101_0
        replace hx101_1 := (HB.out.cell (World.block_lt_of_cell? w _ hx101_1)).trans hx101_1
        replace hx101_2 := (HB.out.cell (World.block_lt_of_cell? w _ hx101_2)).trans hx101_2
        replace hx101_3 := (HB.out.cell (World.block_lt_of_cell? w _ hx101_3)).trans hx101_3
        replace hx101_4 := (HB.out.cell (World.block_lt_of_cell? w _ hx101_4)).trans hx101_4
        replace hx101_5 := (HB.out.cell (World.block_lt_of_cell? w _ hx101_5)).trans hx101_5
        replace p101 := eq_true p101
        replace q101 := eq_true q101
        go_wp2_with (first | (refine goesV_ (some 16) rfl rfl Tryd.func46 (by kernel_rfl) rfl #[.agg #[.int .i64 ((rd_T39 l0 x8_1).f0), .int .i64 ((rd_T39 l0 x8_1).f1), .int .i64 ((rd_T39 l0 x8_1).f2), .int .i64 ((rd_T39 l0 x8_1).f3), .int .i64 ((rd_T39 l0 x8_1).f4), .string ((rd_T39 l0 x8_1).f5)]] rfl qq0 ?_; (with_reducible refine (smf_last.calls ((rd_T39 l0 x8_1).f0) ((rd_T39 l0 x8_1).f1) ((rd_T39 l0 x8_1).f2) ((rd_T39 l0 x8_1).f3) ((rd_T39 l0 x8_1).f4) ((rd_T39 l0 x8_1).f5) true _ A5.out).mono ?_); rintro e w7 ⟨rfl, hb⟩; refine ⟨_, rfl, ?_⟩; replace HB := Aside0.mk (below_step (qB HB.out) hb); (try clear hb); (try clear hb2); (try clear hk); (try clear hi)))
        go_ret
        exact ⟨qq4, qB HB.out⟩
      replace c6 := Bool.eq_false_iff.mpr c6
      subst c6
      have H1 : (api_Midi_45.l0 k1 l0 (l0.length : Int) (wrap64 (x8_1 + 1))) = some r := by rw [if_neg (show ¬ (false = true) by decide)] at H; exact H
      clear H
      have H := H1
      clear H1
      have H' := Aside0.mk H
      clear H
      have p101 : 0 ≤ (x8_1 : Int) := of_decide_eq_true qq3
      have q101 : x8_1 < (l0.length : Int) := of_decide_eq_true qq3
      obtain ⟨ad101, e101, hx101_0, hx101_1, hx101_2, hx101_3, hx101_4, hx101_5⟩ := at_T39 HR0.out x8_1 p101 q101
      cases e101
      replace hx101_0 := (HB.out.cell (World.block_lt_of_cell? w _ hx101_0)).trans hx101_0
      replace hx101_1 := (HB.out.cell (World.block_lt_of_cell? w _ hx101_1)).trans hx101_1
      replace hx101_2 := (HB.out.cell (World.block_lt_of_cell? w _ hx101_2)).trans hx101_2
      replace hx101_3 := (HB.out.cell (World.block_lt_of_cell? w _ hx101_3)).trans hx101_3
      replace hx101_4 := (HB.out.cell (World.block_lt_of_cell? w _ hx101_4)).trans hx101_4
      replace hx101_5 := (HB.out.cell (World.block_lt_of_cell? w _ hx101_5)).trans hx101_5
      replace p101 := eq_true p101
      replace q101 := eq_true q101
      go_wp2_with (first | (refine goesV_ (some 16) rfl rfl Tryd.func46 (by kernel_rfl) rfl #[.agg #[.int .i64 ((rd_T39 l0 x8_1).f0), .int .i64 ((rd_T39 l0 x8_1).f1), .int .i64 ((rd_T39 l0 x8_1).f2), .int .i64 ((rd_T39 l0 x8_1).f3), .int .i64 ((rd_T39 l0 x8_1).f4), .string ((rd_T39 l0 x8_1).f5)]] rfl qq0 ?_; (with_reducible refine (smf_last.calls ((rd_T39 l0 x8_1).f0) ((rd_T39 l0 x8_1).f1) ((rd_T39 l0 x8_1).f2) ((rd_T39 l0 x8_1).f3) ((rd_T39 l0 x8_1).f4) ((rd_T39 l0 x8_1).f5) false _ A5.out).mono ?_); rintro e w8 ⟨rfl, hb⟩; refine ⟨_, rfl, ?_⟩; replace HB := Aside0.mk (below_step (qB HB.out) hb); (try clear hb); (try clear hb2); (try clear hk); (try clear hi)))
      go_roundg k1
      case measure => have := HK1.out; omega
      case rel => exact ⟨(wrap64 (x8_1 + 1)), qq6, H', ⟨qqm⟩, ⟨qB HB.out⟩⟩
def smf_ends.f (k : Nat) (l0 : List (S39)) : Option (Bool) := if (l0.length : Int) > 0 then ((api_Midi_45.f k l0).bind fun t101 => (some (t101 == (wrap64 ((l0.length : Int) - 1))))) else (some false)
theorem smf_ends.mono : ∀ a0 k, LeO (smf_ends.f k a0) (smf_ends.f (k + 1) a0) := by
  intro a0 k
  unfold smf_ends.f
  repeat' first
      | (with_reducible exact api_Midi_45.mono _ _)
      | (with_reducible exact LeO.refl _)
      | (with_reducible exact LeO.none _)
      | (with_reducible refine LeO.ite ?_ ?_)
      | (with_reducible refine LeO.bind ?_ (fun _ => ?_))
      | exact api_Midi_45.mono _ _
      | exact LeO.none _
      | refine LeO.ite ?_ ?_
      | refine LeO.bind ?_ (fun _ => ?_)
set_option maxHeartbeats 8000000 in
set_option maxRecDepth 100000 in
theorem smf_ends.calls (k : Nat) (A0 : Option Addr) (c0 : Nat) (l0 : List (S39)) (r : Bool) (w : World) (hr0 : Kd.C k39 w A0 l0.length l0) (hc0 : l0.length ≤ c0) (h : smf_ends.f k l0 = some r) :
    Calls Tryd.prog 28 #[.slice A0 l0.length c0] w fun e w' => e = .returned (.bool r) ∧ Below w.heap.size w w' := by
  have HR0 := Aside0.mk hr0
  have HC0 := Aside0.mk hc0
  clear hr0 hc0
  have HB := Aside0.mk (Below.refl w.heap.size w)
  have H := h
  unfold smf_ends.f at H
  clear h
  by_cases c2 : (l0.length : Int) > 0
  rotate_left
  · rw [if_neg c2] at H
    have c2b0 : decide (0 < (l0.length : Int)) = false := decide_eq_false c2
    have c2b1 : decide (0 < l0.length) = false := decide_eq_false (by omega)
    clear c2
    obtain rfl := Option.some.inj H
    go_enter Tryd.func28, Tryd.ntmps28
    go_wp2
    go_ret
    exact ⟨qq4, qB HB.out⟩
  rw [if_pos c2] at H
  have c2b0 : decide (0 < (l0.length : Int)) = true := decide_eq_true c2
  have c2b1 : decide (0 < l0.length) = true := decide_eq_true (by omega)
  clear c2
  replace H := Option.bind_eq_some_iff.mp H
  obtain ⟨t101, A30, H⟩ := H
  try dsimp -simprocs only at H
  have A3 := Aside0.mk A30
  clear A30
  obtain rfl := Option.some.inj H
  go_enter Tryd.func28, Tryd.ntmps28
  go_wp2_with (first | (go_at_call 45; (with_reducible refine (api_Midi_45.calls k _ _ l0 t101 _ ?side1 ?side2 A3.out).mono ?_); (case side1 => repeat (first | exact HR0.out | (with_reducible refine Kd.C_alloc ?_ _) | (with_reducible refine Kd.C_drewN ?_ _) | (with_reducible refine Kd.C_drew ?_))); (case side2 => exact HC0.out); rintro e w4 ⟨rfl, hb⟩; replace HB := Aside0.mk (below_step (qB HB.out) hb); (try clear hb); (try clear hb2); (try clear hk); (try clear hi)))
  go_ret
  exact ⟨qq4, qB HB.out⟩
mutual
def smf_Check.j0 : Nat → Bool → Int → Int → List (List (S39)) → Option (Int × Int)
  | 0, _, _, _, _ => none
  | k + 1, x45, x102000, x102001, x102002 => if x45 = true then (some (0, 160)) else (smf_Check.l0 k x102002 (x102002.length : Int) 0)
def smf_Check.l0 : Nat → List (List (S39)) → Int → Int → Option (Int × Int)
  | 0, _, _, _ => none
  | k + 1, x47, x48, x49 => if x49 < x48 then (if 0 ≤ x49 then (if x49 < (x47.length : Int) then ((api_Midi_27.f k (rd_L4 x47 x49)).bind fun t103 => (if t103 = true then (some (x49, 151)) else ((smf_ends.f k (rd_L4 x47 x49)).bind fun t104 => (if t104 = true then (smf_Check.l0 k x47 x48 (wrap64 (x49 + 1))) else (some (x49, 160)))))) else (none)) else (none)) else (some (0, 0))
end
def smf_Check.f (k : Nat) (a0_0 : Int) (a0_1 : Int) (l0_2 : List (List (S39))) : Option (Int × Int) := if a0_0 < 0 then (smf_Check.j0 k true a0_0 a0_1 l0_2) else (if a0_0 > 1 then (smf_Check.j0 k true a0_0 a0_1 l0_2) else (if a0_1 < 1 then (smf_Check.j0 k true a0_0 a0_1 l0_2) else (if a0_1 > 32767 then (smf_Check.j0 k true a0_0 a0_1 l0_2) else (if (l0_2.length : Int) < 1 then (smf_Check.j0 k true a0_0 a0_1 l0_2) else (if (l0_2.length : Int) > 16 then (smf_Check.j0 k true a0_0 a0_1 l0_2) else (if (l0_2.length : Int) > 1 then (smf_Check.j0 k (a0_0 == 0) a0_0 a0_1 l0_2) else (smf_Check.j0 k false a0_0 a0_1 l0_2)))))))
theorem smf_Check.mono_l : ∀ k, (∀ y0 y1 y2 y3, LeO (smf_Check.j0 k y0 y1 y2 y3) (smf_Check.j0 (k + 1) y0 y1 y2 y3)) ∧ (∀ y0 y1 y2, LeO (smf_Check.l0 k y0 y1 y2) (smf_Check.l0 (k + 1) y0 y1 y2))
  | 0 => ⟨fun _ _ _ _ r h => by simp [smf_Check.j0] at h, fun _ _ _ r h => by simp [smf_Check.l0] at h⟩
  | k + 1 => by
    obtain ⟨ih0, ih1⟩ := smf_Check.mono_l k
    refine ⟨?_, ?_⟩
    · intro y0 y1 y2 y3
      unfold smf_Check.j0
      repeat' first
      | (with_reducible exact ih0 _ _ _ _)
      | (with_reducible exact ih1 _ _ _)
      | (with_reducible exact api_Midi_27.mono _ _)
      | (with_reducible exact smf_ends.mono _ _)
      | (with_reducible exact LeO.refl _)
      | (with_reducible exact LeO.none _)
      | (with_reducible refine LeO.ite ?_ ?_)
      | (with_reducible refine LeO.bind ?_ (fun _ => ?_))
      | exact ih0 _ _ _ _
      | exact ih1 _ _ _
      | exact api_Midi_27.mono _ _
      | exact smf_ends.mono _ _
      | exact LeO.none _
      | refine LeO.ite ?_ ?_
      | refine LeO.bind ?_ (fun _ => ?_)
    · intro y0 y1 y2
      unfold smf_Check.l0
      repeat' first
      | (with_reducible exact ih0 _ _ _ _)
      | (with_reducible exact ih1 _ _ _)
      | (with_reducible exact api_Midi_27.mono _ _)
      | (with_reducible exact smf_ends.mono _ _)
      | (with_reducible exact LeO.refl _)
      | (with_reducible exact LeO.none _)
      | (with_reducible refine LeO.ite ?_ ?_)
      | (with_reducible refine LeO.bind ?_ (fun _ => ?_))
      | exact ih0 _ _ _ _
      | exact ih1 _ _ _
      | exact api_Midi_27.mono _ _
      | exact smf_ends.mono _ _
      | exact LeO.none _
      | refine LeO.ite ?_ ?_
      | refine LeO.bind ?_ (fun _ => ?_)
theorem smf_Check.mono : ∀ a0 a1 a2 k, LeO (smf_Check.f k a0 a1 a2) (smf_Check.f (k + 1) a0 a1 a2) := by
  intro a0 a1 a2 k
  obtain ⟨ih0, ih1⟩ := smf_Check.mono_l k
  unfold smf_Check.f
  repeat' first
      | (with_reducible exact ih0 _ _ _ _)
      | (with_reducible exact ih1 _ _ _)
      | (with_reducible exact api_Midi_27.mono _ _)
      | (with_reducible exact smf_ends.mono _ _)
      | (with_reducible exact LeO.refl _)
      | (with_reducible exact LeO.none _)
      | (with_reducible refine LeO.ite ?_ ?_)
      | (with_reducible refine LeO.bind ?_ (fun _ => ?_))
      | exact ih0 _ _ _ _
      | exact ih1 _ _ _
      | exact api_Midi_27.mono _ _
      | exact smf_ends.mono _ _
      | exact LeO.none _
      | refine LeO.ite ?_ ?_
      | refine LeO.bind ?_ (fun _ => ?_)
set_option maxHeartbeats 8000000 in
set_option maxRecDepth 100000 in
theorem smf_Check.calls (k : Nat) (a0_0 : Int) (a0_1 : Int) (A0_2 : Option Addr) (c0_2 : Nat) (l0_2 : List (List (S39))) (r1 : Int) (r2 : Int) (w : World) (hr0_2 : Kd.C (Kd.slice 39 k39) w A0_2 l0_2.length l0_2) (hc0_2 : l0_2.length ≤ c0_2) (h : smf_Check.f k a0_0 a0_1 l0_2 = some (r1, r2)) :
    Calls Tryd.prog 12 #[.agg #[.int .i64 a0_0, .int .i64 a0_1, .slice A0_2 l0_2.length c0_2]] w fun e w' => e = .returned (.tuple #[.int .i64 r1, .int .i64 r2]) ∧ Below w.heap.size w w' := by
  have hu32 := Tryd.underlying32
  have HR0_2 := Aside0.mk hr0_2
  have HC0_2 := Aside0.mk hc0_2
  clear hr0_2 hc0_2
  have HB := Aside0.mk (Below.refl w.heap.size w)
  have H := h
  unfold smf_Check.f at H
  clear h
  have HC2 := Aside0.mk H
  clear H
  go_enter Tryd.func12, Tryd.ntmps12
  go_upto_region 2 with (first | ((with_reducible refine gate_dst (N := 1) rfl ?_); refine box_event ?hg (N := 1) ?hd (cs := #[.int .i64 a0_0, .int .i64 a0_1, .slice A0_2 l0_2.length c0_2]) (t := 32) ?hr ?_; (case hd => rfl); (case hg => rfl); (case hr => exact qq8); intro gb101 hg w3 hbox hb; have BK101 := Aside0.mk (hbox); have GW101 := Aside0.mk ((qq7 : w.heap.size ≤ gb101)); have GE101 := Aside0.mk ((qq7 : w.heap.size ≤ gb101)); replace HB := Aside0.mk (below_step (qB HB.out) hb); clear hb hbox hg; obtain ⟨hcz4_0, hcz4_1, hcz4_2, hfz4_0, hfz4_1, hfz4_2⟩ := blk3 BK101.out))
  (try simp only [Act.put, List.setIfInBounds_toArray, List.set_cons_zero, List.set_cons_succ])
  go_cut [45] (fun v45 wc => ∃ (kq : Nat) (x45_1 : Bool), v45 = .bool x45_1 ∧ Aside0 (smf_Check.j0 kq x45_1 a0_0 a0_1 l0_2 = some (r1, r2)) ∧ Aside0 (kq ≤ k) ∧ Aside0 (wc.heap[gb101]? = some (.cells #[.int .i64 a0_0, .int .i64 a0_1, (.slice A0_2 l0_2.length c0_2)] 32 (0, 0))) ∧ Aside0 (Below w.heap.size w wc))
  case first =>
    have H := HC2.out
    clear HC2
    by_cases c5 : a0_0 < 0
    · rw [if_pos c5] at H
      have c5b0 : decide (a0_0 < 0) = true := decide_eq_true c5
      clear c5
      (first | rw [c5b0] | (simp only [i64_w, i32_w]; rw [c5b0]) | skip)
      have H' := Aside0.mk H
      clear H
      obtain ⟨hcz6_0, hcz6_1, hcz6_2, hfz6_0, hfz6_1, hfz6_2⟩ := blk3 BK101.out
      go_wp2
      go_meet
      case rel => exact ⟨_, (true), qq6, H', ⟨qql⟩, ⟨bq BK101.out⟩, ⟨qS1 GE101 HB.out⟩⟩
    rw [if_neg c5] at H
    have c5b0 : decide (a0_0 < 0) = false := decide_eq_false c5
    clear c5
    (first | rw [c5b0] | (simp only [i64_w, i32_w]; rw [c5b0]) | skip)
    by_cases c7 : a0_0 > 1
    · rw [if_pos c7] at H
      have c7b0 : decide (1 < a0_0) = true := decide_eq_true c7
      clear c7
      have H' := Aside0.mk H
      clear H
      obtain ⟨hcz8_0, hcz8_1, hcz8_2, hfz8_0, hfz8_1, hfz8_2⟩ := blk3 BK101.out
      go_wp2
      go_meet
      case rel => exact ⟨_, (true), qq6, H', ⟨qql⟩, ⟨bq BK101.out⟩, ⟨qS1 GE101 HB.out⟩⟩
    rw [if_neg c7] at H
    have c7b0 : decide (1 < a0_0) = false := decide_eq_false c7
    clear c7
    by_cases c9 : a0_1 < 1
    · rw [if_pos c9] at H
      have c9b0 : decide (a0_1 < 1) = true := decide_eq_true c9
      clear c9
      have H' := Aside0.mk H
      clear H
      obtain ⟨hcz10_0, hcz10_1, hcz10_2, hfz10_0, hfz10_1, hfz10_2⟩ := blk3 BK101.out
      go_wp2
      go_meet
      case rel => exact ⟨_, (true), qq6, H', ⟨qql⟩, ⟨bq BK101.out⟩, ⟨qS1 GE101 HB.out⟩⟩
    rw [if_neg c9] at H
    have c9b0 : decide (a0_1 < 1) = false := decide_eq_false c9
    clear c9
    by_cases c11 : a0_1 > 32767
    · rw [if_pos c11] at H
      have c11b0 : decide (32767 < a0_1) = true := decide_eq_true c11
      clear c11
      have H' := Aside0.mk H
      clear H
      obtain ⟨hcz12_0, hcz12_1, hcz12_2, hfz12_0, hfz12_1, hfz12_2⟩ := blk3 BK101.out
      go_wp2
      go_meet
      case rel => exact ⟨_, (true), qq6, H', ⟨qql⟩, ⟨bq BK101.out⟩, ⟨qS1 GE101 HB.out⟩⟩
    rw [if_neg c11] at H
    have c11b0 : decide (32767 < a0_1) = false := decide_eq_false c11
    clear c11
    by_cases c13 : (l0_2.length : Int) < 1
    · rw [if_pos c13] at H
      have c13b0 : decide ((l0_2.length : Int) < 1) = true := decide_eq_true c13
      have c13b1 : decide (l0_2.length < 1) = true := decide_eq_true (by omega)
      clear c13
      have H' := Aside0.mk H
      clear H
      obtain ⟨hcz14_0, hcz14_1, hcz14_2, hfz14_0, hfz14_1, hfz14_2⟩ := blk3 BK101.out
      go_wp2
      go_meet
      case rel => exact ⟨_, (true), qq6, H', ⟨qql⟩, ⟨bq BK101.out⟩, ⟨qS1 GE101 HB.out⟩⟩
    rw [if_neg c13] at H
    have c13b0 : decide ((l0_2.length : Int) < 1) = false := decide_eq_false c13
    have c13b1 : decide (l0_2.length < 1) = false := decide_eq_false (by omega)
    clear c13
    by_cases c15 : (l0_2.length : Int) > 16
    · rw [if_pos c15] at H
      have c15b0 : decide (16 < (l0_2.length : Int)) = true := decide_eq_true c15
      have c15b1 : decide (16 < l0_2.length) = true := decide_eq_true (by omega)
      clear c15
      have H' := Aside0.mk H
      clear H
      obtain ⟨hcz16_0, hcz16_1, hcz16_2, hfz16_0, hfz16_1, hfz16_2⟩ := blk3 BK101.out
      go_wp2
      go_meet
      case rel => exact ⟨_, (true), qq6, H', ⟨qql⟩, ⟨bq BK101.out⟩, ⟨qS1 GE101 HB.out⟩⟩
    rw [if_neg c15] at H
    have c15b0 : decide (16 < (l0_2.length : Int)) = false := decide_eq_false c15
    have c15b1 : decide (16 < l0_2.length) = false := decide_eq_false (by omega)
    clear c15
    by_cases c17 : (l0_2.length : Int) > 1
    · rw [if_pos c17] at H
      have c17b0 : decide (1 < (l0_2.length : Int)) = true := decide_eq_true c17
      have c17b1 : decide (1 < l0_2.length) = true := decide_eq_true (by omega)
      clear c17
      have H' := Aside0.mk H
      clear H
      obtain ⟨hcz18_0, hcz18_1, hcz18_2, hfz18_0, hfz18_1, hfz18_2⟩ := blk3 BK101.out
      go_wp2
      go_meet
      case rel => exact ⟨_, ((a0_0 == 0)), qq6, H', ⟨qql⟩, ⟨bq BK101.out⟩, ⟨qS1 GE101 HB.out⟩⟩
    rw [if_neg c17] at H
    have c17b0 : decide (1 < (l0_2.length : Int)) = false := decide_eq_false c17
    have c17b1 : decide (1 < l0_2.length) = false := decide_eq_false (by omega)
    clear c17
    have H' := Aside0.mk H
    clear H
    obtain ⟨hcz19_0, hcz19_1, hcz19_2, hfz19_0, hfz19_1, hfz19_2⟩ := blk3 BK101.out
    go_wp2
    go_meet
    case rel => exact ⟨_, (false), qq6, H', ⟨qql⟩, ⟨bq BK101.out⟩, ⟨qS1 GE101 HB.out⟩⟩
  case rest =>
    clear HC2
    try clear c1
    try clear p2
    try clear c5
    try clear c5b0
    try clear c7
    try clear c7b0
    try clear c9
    try clear c9b0
    try clear c11
    try clear c11b0
    try clear c12
    try clear c13
    try clear c13b0
    try clear c13b1
    try clear c15
    try clear c15b0
    try clear c15b1
    try clear c17
    try clear c17b0
    try clear c17b1
    try clear hcz10_0
    try clear hcz10_1
    try clear hcz10_2
    try clear hcz12_0
    try clear hcz12_1
    try clear hcz12_2
    try clear hcz14_0
    try clear hcz14_1
    try clear hcz14_2
    try clear hcz16_0
    try clear hcz16_1
    try clear hcz16_2
    try clear hcz18_0
    try clear hcz18_1
    try clear hcz18_2
    try clear hcz19_0
    try clear hcz19_1
    try clear hcz19_2
    try clear hcz4_0
    try clear hcz4_1
    try clear hcz4_2
    try clear hcz6_0
    try clear hcz6_1
    try clear hcz6_2
    try clear hcz8_0
    try clear hcz8_1
    try clear hcz8_2
    try clear hfz10_0
    try clear hfz10_1
    try clear hfz10_2
    try clear hfz12_0
    try clear hfz12_1
    try clear hfz12_2
    try clear hfz14_0
    try clear hfz14_1
    try clear hfz14_2
    try clear hfz16_0
    try clear hfz16_1
    try clear hfz16_2
    try clear hfz18_0
    try clear hfz18_1
    try clear hfz18_2
    try clear hfz19_0
    try clear hfz19_1
    try clear hfz19_2
    try clear hfz4_0
    try clear hfz4_1
    try clear hfz4_2
    try clear hfz6_0
    try clear hfz6_1
    try clear hfz6_2
    try clear hfz8_0
    try clear hfz8_1
    try clear hfz8_2
    obtain ⟨kq, x45_1, rfl, HA, HJ1, BK101, HB⟩ := hcut
    cases kq with
    | zero => exact absurd HA.out (by simp [smf_Check.j0])
    | succ kj1 =>
      have H := HA.out
      clear HA
      simp only [smf_Check.j0] at H
      by_cases c20 : x45_1 = true
      · subst c20
        have H1 : (some (0, 160)) = some (r1, r2) := by rw [if_pos rfl] at H; exact H
        clear H
        have H := H1
        clear H1
        simp only [Option.some.injEq, Prod.mk.injEq] at H
        obtain ⟨rfl, rfl⟩ := H
        go_wp2
        go_ret2
        exact ⟨qq4, qS1 GE101 HB.out⟩
      replace c20 := Bool.eq_false_iff.mpr c20
      subst c20
      have H1 : (smf_Check.l0 kj1 l0_2 (l0_2.length : Int) 0) = some (r1, r2) := by rw [if_neg (show ¬ (false = true) by decide)] at H; exact H
      clear H
      have H := H1
      clear H1
      have H' := Aside0.mk H
      clear H
      obtain ⟨hcz21_0, hcz21_1, hcz21_2, hfz21_0, hfz21_1, hfz21_2⟩ := blk3 BK101.out
      go_wp2
      go_loopg [49] kj1 (fun kq v49 w' => ∃ (x49_2 : Int), v49 = .int .i64 x49_2 ∧ Aside0 (smf_Check.l0 kq l0_2 (l0_2.length : Int) x49_2 = some (r1, r2)) ∧ Aside0 (kq ≤ kj1) ∧ Aside0 (w'.heap[gb101]? = some (.cells #[.int .i64 a0_0, .int .i64 a0_1, (.slice A0_2 l0_2.length c0_2)] 32 (0, 0))) ∧ Aside0 (Below w.heap.size w w'))
      case atStart => exact ⟨(0), qq6, H', ⟨Nat.le_refl _⟩, ⟨bq BK101.out⟩, ⟨qS1 GE101 HB.out⟩⟩
      case round =>
        clear H'
        try clear c1
        try clear c2
        try clear p2
        try clear c5
        try clear c5b0
        try clear c7
        try clear c7b0
        try clear c9
        try clear c9b0
        try clear c11
        try clear c11b0
        try clear c12
        try clear c13
        try clear c13b0
        try clear c13b1
        try clear c15
        try clear c15b0
        try clear c15b1
        try clear c17
        try clear c17b0
        try clear c17b1
        try clear c20
        try clear hcz10_0
        try clear hcz10_1
        try clear hcz10_2
        try clear hcz12_0
        try clear hcz12_1
        try clear hcz12_2
        try clear hcz14_0
        try clear hcz14_1
        try clear hcz14_2
        try clear hcz16_0
        try clear hcz16_1
        try clear hcz16_2
        try clear hcz18_0
        try clear hcz18_1
        try clear hcz18_2
        try clear hcz19_0
        try clear hcz19_1
        try clear hcz19_2
        try clear hcz21_0
        try clear hcz21_1
        try clear hcz21_2
        try clear hcz4_0
        try clear hcz4_1
        try clear hcz4_2
        try clear hcz6_0
        try clear hcz6_1
        try clear hcz6_2
        try clear hcz8_0
        try clear hcz8_1
        try clear hcz8_2
        try clear hfz10_0
        try clear hfz10_1
        try clear hfz10_2
        try clear hfz12_0
        try clear hfz12_1
        try clear hfz12_2
        try clear hfz14_0
        try clear hfz14_1
        try clear hfz14_2
        try clear hfz16_0
        try clear hfz16_1
        try clear hfz16_2
        try clear hfz18_0
        try clear hfz18_1
        try clear hfz18_2
        try clear hfz19_0
        try clear hfz19_1
        try clear hfz19_2
        try clear hfz21_0
        try clear hfz21_1
        try clear hfz21_2
        try clear hfz4_0
        try clear hfz4_1
        try clear hfz4_2
        try clear hfz6_0
        try clear hfz6_1
        try clear hfz6_2
        try clear hfz8_0
        try clear hfz8_1
        try clear hfz8_2
        try clear p2
        obtain ⟨x49_2, rfl, HA, HK2, BK101, HB⟩ := hrel
        cases gk with
        | zero => exact absurd HA.out (by simp [smf_Check.l0])
        | succ k2 =>
          have H := HA.out
          clear HA
          simp only [smf_Check.l0] at H
          by_cases c22 : x49_2 < (l0_2.length : Int)
          rotate_left
          · rw [if_neg c22] at H
            have c22b0 : decide (x49_2 < (l0_2.length : Int)) = false := decide_eq_false c22
            clear c22
            simp only [Option.some.injEq, Prod.mk.injEq] at H
            obtain ⟨rfl, rfl⟩ := H
            go_wp2
            go_ret2
            exact ⟨qq4, qS1 GE101 HB.out⟩
          rw [if_pos c22] at H
          have c22b0 : decide (x49_2 < (l0_2.length : Int)) = true := decide_eq_true c22
          clear c22
          by_cases c23 : 0 ≤ x49_2
          rotate_left
          · rw [if_neg c23] at H
            exact absurd H (by simp)
          rw [if_pos c23] at H
          have c23b0 : decide (0 ≤ x49_2) = true := decide_eq_true c23
          clear c23
          by_cases c24 : x49_2 < (l0_2.length : Int)
          rotate_left
          · rw [if_neg c24] at H
            exact absurd H (by simp)
          rw [if_pos c24] at H
          have c24b0 : decide (x49_2 < (l0_2.length : Int)) = true := decide_eq_true c24
          clear c24
          replace H := Option.bind_eq_some_iff.mp H
          obtain ⟨t103, A250, H⟩ := H
          try dsimp -simprocs only at H
          have A25 := Aside0.mk A250
          clear A250
          by_cases c26 : t103 = true
          · subst c26
            have H1 : (some (x49_2, 151)) = some (r1, r2) := by rw [if_pos rfl] at H; exact H
            clear H
            have H := H1
            clear H1
            simp only [Option.some.injEq, Prod.mk.injEq] at H
            obtain ⟨rfl, rfl⟩ := H
            have p102 : 0 ≤ (x49_2 : Int) := of_decide_eq_true qq3
            have q102 : x49_2 < (l0_2.length : Int) := of_decide_eq_true qq3
            obtain ⟨ad102, A102_0, c102_0, e102, hx102_0, hl102_0, hi102_0⟩ := at_L4 HR0_2.out x49_2 p102 q102
            cases e102
            replace hx102_0 := (HB.out.cell (World.block_lt_of_cell? w _ hx102_0)).trans hx102_0
            have HR102_0 := Aside0.mk hi102_0
            have HC102_0 := Aside0.mk hl102_0
            clear hi102_0 hl102_0
            replace p102 := eq_true p102
            replace q102 := eq_true q102
            go_wp2_with (first | ((with_reducible refine gate_callee (f := 27) rfl ?_); refine goesL_ (some 57) rfl rfl Tryd.func27 (by kernel_rfl) rfl #[.slice A102_0 (rd_L4 l0_2 x49_2).length c102_0, .func (.func 26) #[] #[]] rfl qq0 ?_; (with_reducible refine (api_Midi_27.calls k2 _ _ (rd_L4 l0_2 x49_2) true _ ?side1 ?side2 A25.out).mono ?_); (case side1 => repeat (first | exact (Kd.C_below HR102_0.out HB.out) | (with_reducible refine Kd.C_alloc ?_ _) | (with_reducible refine Kd.C_drewN ?_ _) | (with_reducible refine Kd.C_drew ?_))); (case side2 => exact HC102_0.out); rintro e w27 ⟨rfl, hb⟩; refine ⟨_, rfl, ?_⟩; replace BK101 := Aside0.mk (blk_below (bq BK101.out) hb); replace HB := Aside0.mk (below_step (qS1 GE101 HB.out) hb); (try clear hb); (try clear hb2); (try clear hk); (try clear hi)))
            go_ret2
            exact ⟨qq4, qS1 GE101 HB.out⟩
          replace c26 := Bool.eq_false_iff.mpr c26
          subst c26
          have H1 : ((smf_ends.f k2 (rd_L4 l0_2 x49_2)).bind fun t104 => (if t104 = true then (smf_Check.l0 k2 l0_2 (l0_2.length : Int) (wrap64 (x49_2 + 1))) else (some (x49_2, 160)))) = some (r1, r2) := by rw [if_neg (show ¬ (false = true) by decide)] at H; exact H
          clear H
          have H := H1
          clear H1
          replace H := Option.bind_eq_some_iff.mp H
          obtain ⟨t104, A280, H⟩ := H
          try dsimp -simprocs only at H
          have A28 := Aside0.mk A280
          clear A280
          by_cases c29 : t104 = true
          · subst c29
            have H1 : (smf_Check.l0 k2 l0_2 (l0_2.length : Int) (wrap64 (x49_2 + 1))) = some (r1, r2) := by rw [if_pos rfl] at H; exact H
            clear H
            have H := H1
            clear H1
            have H' := Aside0.mk H
            clear H
            have p102 : 0 ≤ (x49_2 : Int) := of_decide_eq_true qq3
            have q102 : x49_2 < (l0_2.length : Int) := of_decide_eq_true qq3
            obtain ⟨ad102, A102_0, c102_0, e102, hx102_0, hl102_0, hi102_0⟩ := at_L4 HR0_2.out x49_2 p102 q102
            cases e102
            replace hx102_0 := (HB.out.cell (World.block_lt_of_cell? w _ hx102_0)).trans hx102_0
            have HR102_0 := Aside0.mk hi102_0
            have HC102_0 := Aside0.mk hl102_0
            clear hi102_0 hl102_0
            replace p102 := eq_true p102
            replace q102 := eq_true q102
            go_wp2_with (first | ((with_reducible refine gate_callee (f := 27) rfl ?_); refine goesL_ (some 57) rfl rfl Tryd.func27 (by kernel_rfl) rfl #[.slice A102_0 (rd_L4 l0_2 x49_2).length c102_0, .func (.func 26) #[] #[]] rfl qq0 ?_; (with_reducible refine (api_Midi_27.calls k2 _ _ (rd_L4 l0_2 x49_2) false _ ?side1 ?side2 A25.out).mono ?_); (case side1 => repeat (first | exact (Kd.C_below HR102_0.out HB.out) | (with_reducible refine Kd.C_alloc ?_ _) | (with_reducible refine Kd.C_drewN ?_ _) | (with_reducible refine Kd.C_drew ?_))); (case side2 => exact HC102_0.out); rintro e w30 ⟨rfl, hb⟩; refine ⟨_, rfl, ?_⟩; replace BK101 := Aside0.mk (blk_below (bq BK101.out) hb); replace HB := Aside0.mk (below_step (qS1 GE101 HB.out) hb); (try clear hb); (try clear hb2); (try clear hk); (try clear hi)) | ((with_reducible refine gate_callee (f := 28) rfl ?_); refine goesL_ (some 61) rfl rfl Tryd.func28 (by kernel_rfl) rfl #[.slice A102_0 (rd_L4 l0_2 x49_2).length c102_0] rfl qq0 ?_; (with_reducible refine (smf_ends.calls k2 _ _ (rd_L4 l0_2 x49_2) true _ ?side1 ?side2 A28.out).mono ?_); (case side1 => repeat (first | exact (Kd.C_below HR102_0.out HB.out) | (with_reducible refine Kd.C_alloc ?_ _) | (with_reducible refine Kd.C_drewN ?_ _) | (with_reducible refine Kd.C_drew ?_))); (case side2 => exact HC102_0.out); rintro e w31 ⟨rfl, hb⟩; refine ⟨_, rfl, ?_⟩; replace BK101 := Aside0.mk (blk_below (bq BK101.out) hb); replace HB := Aside0.mk (below_step (qS1 GE101 HB.out) hb); (try clear hb); (try clear hb2); (try clear hk); (try clear hi)))
            go_roundg k2
            case measure => have := HJ1.out; have := HK2.out; omega
            case rel => exact ⟨(wrap64 (x49_2 + 1)), qq6, H', ⟨by have := HJ1.out; have := HK2.out; omega⟩, ⟨bq BK101.out⟩, ⟨qS1 GE101 HB.out⟩⟩
          replace c29 := Bool.eq_false_iff.mpr c29
          subst c29
          have H1 : (some (x49_2, 160)) = some (r1, r2) := by rw [if_neg (show ¬ (false = true) by decide)] at H; exact H
          clear H
          have H := H1
          clear H1
          simp only [Option.some.injEq, Prod.mk.injEq] at H
          obtain ⟨rfl, rfl⟩ := H
          have p102 : 0 ≤ (x49_2 : Int) := of_decide_eq_true qq3
          have q102 : x49_2 < (l0_2.length : Int) := of_decide_eq_true qq3
          obtain ⟨ad102, A102_0, c102_0, e102, hx102_0, hl102_0, hi102_0⟩ := at_L4 HR0_2.out x49_2 p102 q102
          cases e102
          replace hx102_0 := (HB.out.cell (World.block_lt_of_cell? w _ hx102_0)).trans hx102_0
          have HR102_0 := Aside0.mk hi102_0
          have HC102_0 := Aside0.mk hl102_0
          clear hi102_0 hl102_0
          replace p102 := eq_true p102
          replace q102 := eq_true q102
          go_wp2_with (first | ((with_reducible refine gate_callee (f := 27) rfl ?_); refine goesL_ (some 57) rfl rfl Tryd.func27 (by kernel_rfl) rfl #[.slice A102_0 (rd_L4 l0_2 x49_2).length c102_0, .func (.func 26) #[] #[]] rfl qq0 ?_; (with_reducible refine (api_Midi_27.calls k2 _ _ (rd_L4 l0_2 x49_2) false _ ?side1 ?side2 A25.out).mono ?_); (case side1 => repeat (first | exact (Kd.C_below HR102_0.out HB.out) | (with_reducible refine Kd.C_alloc ?_ _) | (with_reducible refine Kd.C_drewN ?_ _) | (with_reducible refine Kd.C_drew ?_))); (case side2 => exact HC102_0.out); rintro e w32 ⟨rfl, hb⟩; refine ⟨_, rfl, ?_⟩; replace BK101 := Aside0.mk (blk_below (bq BK101.out) hb); replace HB := Aside0.mk (below_step (qS1 GE101 HB.out) hb); (try clear hb); (try clear hb2); (try clear hk); (try clear hi)) | ((with_reducible refine gate_callee (f := 28) rfl ?_); refine goesL_ (some 61) rfl rfl Tryd.func28 (by kernel_rfl) rfl #[.slice A102_0 (rd_L4 l0_2 x49_2).length c102_0] rfl qq0 ?_; (with_reducible refine (smf_ends.calls k2 _ _ (rd_L4 l0_2 x49_2) false _ ?side1 ?side2 A28.out).mono ?_); (case side1 => repeat (first | exact (Kd.C_below HR102_0.out HB.out) | (with_reducible refine Kd.C_alloc ?_ _) | (with_reducible refine Kd.C_drewN ?_ _) | (with_reducible refine Kd.C_drew ?_))); (case side2 => exact HC102_0.out); rintro e w33 ⟨rfl, hb⟩; refine ⟨_, rfl, ?_⟩; replace BK101 := Aside0.mk (blk_below (bq BK101.out) hb); replace HB := Aside0.mk (below_step (qS1 GE101 HB.out) hb); (try clear hb); (try clear hb2); (try clear hk); (try clear hi)))
          go_ret2
          exact ⟨qq4, qS1 GE101 HB.out⟩
end Go.Proofs.YtdmnknhlibaaoaaDoor.M
namespace Go.Proofs.YtdmnknhlibaaoaaDoor.M
open Go.RowKit Go.Proofs.YtdmnknhlibaaoaaDoorW.PrintWords Go.Proofs.YtdmnknhlibaaoaaDoorW.PrintLast Go.Proofs.YtdmnknhlibaaoaaDoorW.PrintMore
set_option linter.unusedVariables false
set_option linter.unusedSimpArgs false
def MkRow (w : World) (base : Nat) (v : Value) (xs : List Int) : Prop :=
  ∃ g fz, v = .slice (some ⟨g, 0, none⟩) xs.length xs.length ∧ base ≤ g ∧ w.heap[g]? = some (.cells (nums .u8 xs).toArray 5 fz)
theorem MkRow.lt {w : World} {base : Nat} {v : Value} {xs : List Int} (h : MkRow w base v xs) : ∃ g, v = .slice (some ⟨g, 0, none⟩) xs.length xs.length ∧ g < w.heap.size := by
  obtain ⟨g, fz, rfl, _, hg⟩ := h
  exact ⟨g, rfl, blk_lt hg⟩
theorem MkRow.below {w w1 : World} {base : Nat} {v : Value} {xs : List Int} (h : MkRow w base v xs) (hb : Below w.heap.size w w1) : MkRow w1 base v xs := by
  obtain ⟨g, fz, rfl, h0, hg⟩ := h
  exact ⟨g, fz, rfl, h0, (hb.block g (blk_lt hg)).trans hg⟩
theorem MkRow.alloc {w : World} {base : Nat} {v : Value} {xs : List Int} (h : MkRow w base v xs) (o : Obj) : MkRow (w.alloc o) base v xs := by
  obtain ⟨g, fz, rfl, h0, hg⟩ := h
  exact ⟨g, fz, rfl, h0, blk_alloc hg o⟩
theorem MkRow.drew {w : World} {base : Nat} {v : Value} {xs : List Int} (h : MkRow w base v xs) : MkRow w.drew base v xs := by
  obtain ⟨g, fz, rfl, h0, hg⟩ := h
  exact ⟨g, fz, rfl, h0, blk_drew hg⟩
theorem MkRow.start (w6 : World) {base : Nat} {y : List Int} (hy : y = [77, 84, 104, 100, 0, 0, 0, 6]) (h : base ≤ w6.heap.size) : MkRow (w6.alloc (.cells #[.int .u8 77, .int .u8 84, .int .u8 104, .int .u8 100, .int .u8 0, .int .u8 0, .int .u8 0, .int .u8 6] 5 (8, 9))) base (.slice (some ⟨w6.heap.size, 0, none⟩) 8 8) y := by
  subst hy
  exact ⟨w6.heap.size, (8, 9), rfl, h, by simpa [nums] using heap_alloc_new w6 (.cells #[.int .u8 77, .int .u8 84, .int .u8 104, .int .u8 100, .int .u8 0, .int .u8 0, .int .u8 0, .int .u8 6] 5 (8, 9))⟩
theorem mark_append {P : Program} {ops : Array Oper} {rest : List Oper} {o : Oper} {a : Act} {Q : Exit → Act → World → Prop} {w0 W : World} (base : Nat) (hgd : o.guard = none) (s x : Operand) (t : TypeId)
    (ho : o.op = .call { callee := .builtin .append, args := #[s, x], argTypes := #[t, t] })
    (ht : P.underlying t = some (.slice 5)) (hinfo : (P.info? 5).map (fun i => (i.zero, i.size, i.bytes)) = some (some (.int .u8 0), 1, 1))
    (v : Value) (xs ys : List Int) (A : Option Addr) (m c : Nat) (b0 : Nat) (ok : Nat → Prop) (hs : a.eval s = v) (hx : a.eval x = .slice A m c) (hm : 0 < m)
    (HO : MkRow W base v xs) (HY : Kd.R (Kd.int .u8) 5 W b0 ok (.slice A m c) ys)
    (HB : Below base w0 W) (hbase : base ≤ W.heap.size) (hl : xs.length + m ≤ 140737488355328)
    (h : ∀ v1 w1, Kd.R (Kd.int .u8) 5 w1 base (fun _ => True) v1 (xs ++ ys) → Below base w0 w1 → W.grownBy w1 none → (∃ b, v1.ownBlock = some b ∧ W.heap.size ≤ b) → wpList P ops Q rest (a.put o.dst v1) w1) :
    wpList P ops Q (o :: rest) a W := by
  obtain ⟨i0, hi, hzz⟩ := Option.map_eq_some_iff.1 hinfo
  simp only [Prod.mk.injEq] at hzz
  obtain ⟨hz0, hz1, hz2⟩ := hzz
  have hym : m = ys.length := (Kd.R_reads' HY).1
  have hy := Kd.own_of_R HY
  obtain ⟨g, fz, rfl, hg0, hg⟩ := HO
  rcases hy.2 with ⟨he, _⟩ | ⟨gy, capy, cury, hey, hgy, hhy, hny, hcy, hsy, hty⟩
  · injection he with _ he _
    omega
  · injection hey with h1 h2 h3
    subst h1
    refine wpList_append_grows W hgd s x t ho 5 i0 (.int .u8 0) 1 1 ht hi hz0 hz1 hz2 rfl (by decide) (some ⟨g, 0, none⟩) xs.length xs.length (nums .u8 xs) hs (by simp) (by rw [nums_length]; omega) ?_
      ⟨gy, 0, none⟩ m c (nums .u8 ys) hx (by rw [nums_length]; omega) ?_ ?_ (by omega) (by simp only [maxLen]; omega) (by omega) ?_
    · intro b hb j u hj
      injection hb with hb
      subst hb
      rw [Addr.add_lit, Nat.zero_add]
      simp only [World.cell?, hg]
      simpa using hj
    · intro j u hj
      rw [Addr.add_lit, Nat.zero_add]
      simp only [World.cell?, hhy]
      have hj2 : (encs (Value.int .u8) ys)[j]? = some u := hj
      rw [← hty] at hj2
      rw [List.getElem?_take] at hj2
      split at hj2
      · simpa using hj2
      · cases hj2
    · intro u hu
      simp only [nums, List.mem_map] at hu
      obtain ⟨q, _, rfl⟩ := hu
      rfl
    · intro v1 w1 hown hgr
      have hlen : (xs ++ ys).length = xs.length + m := by rw [List.length_append]; omega
      rw [← nums_append, ← hlen] at hown
      have hR : Kd.R (Kd.int .u8) 5 w1 W.heap.size (fun _ => True) v1 (xs ++ ys) := Kd.R_of_own (h1 := fun _ => rfl) (ok := fun _ => True) hown (fun _ _ => trivial)
      refine h v1 w1 (Kd.R_lower hR hbase) (HB.grown hgr hbase (by simp)) hgr ?_
      rcases hown.2 with ⟨rfl, h0⟩ | ⟨g1, cap1, cur1, rfl, hg1, _⟩
      · omega
      · exact ⟨g1, rfl, hg1⟩
end Go.Proofs.YtdmnknhlibaaoaaDoor.M
namespace Go.Proofs.YtdmnknhlibaaoaaDoor.M
open Go.RowKit Go.Proofs.YtdmnknhlibaaoaaDoorW.PrintWords Go.Proofs.YtdmnknhlibaaoaaDoorW.PrintLast Go.Proofs.YtdmnknhlibaaoaaDoorW.PrintMore
attribute [local go_sem] max2_int min2_int max_two min_two max_three min_three max_four min_four
set_option linter.unusedVariables false
set_option linter.unusedSimpArgs false
mutual
def smf_Print.l0 : Nat → List Int → List Int → Int → Int → Int → Int → List (List (S39)) → Option (ByteArray × Int)
  | 0, _, _, _, _, _, _, _ => none
  | k + 1, x6, x31, x32, x33, x102000, x102001, x102002 => if x33 < x32 then (if 0 ≤ x33 then (if x33 < (x31.length : Int) then ((some (([((rd x31 x33) / 256) % 256, (rd x31 x33) % 256] : List Int) : List Int)).bind fun y111 => (if x6.length + y111.length < 140737488355328 then (smf_Print.l0 k (x6 ++ y111) x31 x32 (wrap64 (x33 + 1)) x102000 x102001 x102002) else (none))) else (none)) else (none)) else (smf_Print.l1 k x6 x102002 (x102002.length : Int) 0)
def smf_Print.l1 : Nat → List Int → List (List (S39)) → Int → Int → Option (ByteArray × Int)
  | 0, _, _, _, _ => none
  | k + 1, x6, x47, x48, x49 => if x49 < x48 then (if 0 ≤ x49 then (if x49 < (x47.length : Int) then ((wire_Encode.f k (rd_L4 x47 x49)).bind fun bt118 => (if x6.length + 4 < 140737488355328 then ((some (x6 ++ bytesOf (⟨#[77, 84, 114, 107]⟩ : ByteArray) : List Int)).bind fun y120 => ((some (([((bt118.1.size : Int) / 16777216) % 256, ((bt118.1.size : Int) / 65536) % 256, ((bt118.1.size : Int) / 256) % 256, ((bt118.1.size : Int)) % 256] : List Int) : List Int)).bind fun y123 => (if y120.length + y123.length < 140737488355328 then ((some (y120 ++ y123 : List Int)).bind fun y126 => (if y126.length + bt118.1.size < 140737488355328 then (smf_Print.l1 k (y126 ++ bytesOf bt118.1) x47 x48 (wrap64 (x49 + 1))) else (none))) else (none)))) else (none))) else (none)) else (none)) else (if (x6.length : Int) > 100000 then (some ((⟨#[]⟩ : ByteArray), 160)) else (some (strOfNums x6, 0)))
end
def smf_Print.f (k : Nat) (a0_0 : Int) (a0_1 : Int) (l0_2 : List (List (S39))) : Option (ByteArray × Int) := (smf_Check.f k a0_0 a0_1 l0_2).bind fun bt102 => (if bt102.2 = 0 then ((some (([a0_0, (l0_2.length : Int), a0_1] : List Int) : List Int)).bind fun y107 => (smf_Print.l0 k (([77, 84, 104, 100, 0, 0, 0, 6] : List Int)) y107 (y107.length : Int) 0 a0_0 a0_1 l0_2)) else (some ((⟨#[]⟩ : ByteArray), bt102.2)))
theorem smf_Print.mono_l : ∀ k, (∀ y0 y1 y2 y3 y4 y5 y6, LeO (smf_Print.l0 k y0 y1 y2 y3 y4 y5 y6) (smf_Print.l0 (k + 1) y0 y1 y2 y3 y4 y5 y6)) ∧ (∀ y0 y1 y2 y3, LeO (smf_Print.l1 k y0 y1 y2 y3) (smf_Print.l1 (k + 1) y0 y1 y2 y3))
  | 0 => ⟨fun _ _ _ _ _ _ _ r h => by simp [smf_Print.l0] at h, fun _ _ _ _ r h => by simp [smf_Print.l1] at h⟩
  | k + 1 => by
    obtain ⟨ih0, ih1⟩ := smf_Print.mono_l k
    refine ⟨?_, ?_⟩
    · intro y0 y1 y2 y3 y4 y5 y6
      unfold smf_Print.l0
      repeat' first
      | (with_reducible exact ih0 _ _ _ _ _ _ _)
      | (with_reducible exact ih1 _ _ _ _)
      | (with_reducible exact smf_Check.mono _ _ _ _)
      | (with_reducible exact wire_Encode.mono _ _)
      | (with_reducible exact LeO.refl _)
      | (with_reducible exact LeO.none _)
      | (with_reducible refine LeO.ite ?_ ?_)
      | (with_reducible refine LeO.bind ?_ (fun _ => ?_))
      | exact ih0 _ _ _ _ _ _ _
      | exact ih1 _ _ _ _
      | exact smf_Check.mono _ _ _ _
      | exact wire_Encode.mono _ _
      | exact LeO.none _
      | refine LeO.ite ?_ ?_
      | refine LeO.bind ?_ (fun _ => ?_)
    · intro y0 y1 y2 y3
      unfold smf_Print.l1
      repeat' first
      | (with_reducible exact ih0 _ _ _ _ _ _ _)
      | (with_reducible exact ih1 _ _ _ _)
      | (with_reducible exact smf_Check.mono _ _ _ _)
      | (with_reducible exact wire_Encode.mono _ _)
      | (with_reducible exact LeO.refl _)
      | (with_reducible exact LeO.none _)
      | (with_reducible refine LeO.ite ?_ ?_)
      | (with_reducible refine LeO.bind ?_ (fun _ => ?_))
      | exact ih0 _ _ _ _ _ _ _
      | exact ih1 _ _ _ _
      | exact smf_Check.mono _ _ _ _
      | exact wire_Encode.mono _ _
      | exact LeO.none _
      | refine LeO.ite ?_ ?_
      | refine LeO.bind ?_ (fun _ => ?_)
theorem smf_Print.mono : ∀ a0 a1 a2 k, LeO (smf_Print.f k a0 a1 a2) (smf_Print.f (k + 1) a0 a1 a2) := by
  intro a0 a1 a2 k
  obtain ⟨ih0, ih1⟩ := smf_Print.mono_l k
  unfold smf_Print.f
  repeat' first
      | (with_reducible exact ih0 _ _ _ _ _ _ _)
      | (with_reducible exact ih1 _ _ _ _)
      | (with_reducible exact smf_Check.mono _ _ _ _)
      | (with_reducible exact wire_Encode.mono _ _)
      | (with_reducible exact LeO.refl _)
      | (with_reducible exact LeO.none _)
      | (with_reducible refine LeO.ite ?_ ?_)
      | (with_reducible refine LeO.bind ?_ (fun _ => ?_))
      | exact ih0 _ _ _ _ _ _ _
      | exact ih1 _ _ _ _
      | exact smf_Check.mono _ _ _ _
      | exact wire_Encode.mono _ _
      | exact LeO.none _
      | refine LeO.ite ?_ ?_
      | refine LeO.bind ?_ (fun _ => ?_)
set_option maxHeartbeats 8000000 in
set_option maxRecDepth 100000 in
theorem smf_Print.calls (k : Nat) (a0_0 : Int) (a0_1 : Int) (A0_2 : Option Addr) (c0_2 : Nat) (l0_2 : List (List (S39))) (r1 : ByteArray) (r2 : Int) (w : World) (hr0_2 : Kd.C (Kd.slice 39 k39) w A0_2 l0_2.length l0_2) (hc0_2 : l0_2.length ≤ c0_2) (h : smf_Print.f k a0_0 a0_1 l0_2 = some (r1, r2)) :
    Calls Tryd.prog 9 #[.agg #[.int .i64 a0_0, .int .i64 a0_1, .slice A0_2 l0_2.length c0_2]] w fun e w' => e = .returned (.tuple #[.string r1, .int .i64 r2]) ∧ Below w.heap.size w w' := by
  have hu32 := Tryd.underlying32
  have HR0_2 := Aside0.mk hr0_2
  have HC0_2 := Aside0.mk hc0_2
  clear hr0_2 hc0_2
  have HB := Aside0.mk (Below.refl w.heap.size w)
  have H := h
  unfold smf_Print.f at H
  clear h
  replace H := Option.bind_eq_some_iff.mp H
  obtain ⟨⟨t102, t103⟩, A20, H⟩ := H
  try dsimp -simprocs only at H
  have A2 := Aside0.mk A20
  clear A20
  have hcv : ∀ (W : World), (convert 56 56 (.slice (some ⟨W.heap.size, 0, none⟩) 8 8)).run Tryd.prog (W.alloc (.cells #[.int .u8 77, .int .u8 84, .int .u8 104, .int .u8 100, .int .u8 0, .int .u8 0, .int .u8 0, .int .u8 6] 5)) = .ok (.slice (some ⟨W.heap.size, 0, none⟩) 8 8) (W.alloc (.cells #[.int .u8 77, .int .u8 84, .int .u8 104, .int .u8 100, .int .u8 0, .int .u8 0, .int .u8 0, .int .u8 6] 5 (8, 9))) := fun W => Lib.run_convert_bytes_const W 56 5 #[.int .u8 77, .int .u8 84, .int .u8 104, .int .u8 100, .int .u8 0, .int .u8 0, .int .u8 0, .int .u8 6] 8 8 Tryd.underlying56 Tryd.underlying5
  by_cases c3 : t103 = 0
  rotate_left
  · rw [if_neg c3] at H
    have c3b0 : (t103 == 0) = false := beq_eq_false_iff_ne.mpr c3
    have c3b1 : (t103 != 0) = true := bne_iff_ne.mpr c3
    simp only [Option.some.injEq, Prod.mk.injEq] at H
    obtain ⟨rfl, rfl⟩ := H
    go_enter Tryd.func9, Tryd.ntmps9
    go_wp2_with (first | ((with_reducible refine gate_dst (N := 1) rfl ?_); refine box_event ?hg (N := 1) ?hd (cs := #[.int .i64 a0_0, .int .i64 a0_1, .slice A0_2 l0_2.length c0_2]) (t := 32) ?hr ?_; (case hd => rfl); (case hg => rfl); (case hr => exact qq8); intro gb101 hg w40 hbox hb; have BK101 := Aside0.mk (hbox); have GW101 := Aside0.mk ((qq7 : w.heap.size ≤ gb101)); have GE101 := Aside0.mk ((qq7 : w.heap.size ≤ gb101)); replace HB := Aside0.mk (below_step (qB HB.out) hb); clear hb hbox hg; obtain ⟨hcz41_0, hcz41_1, hcz41_2, hfz41_0, hfz41_1, hfz41_2⟩ := blk3 BK101.out) | ((with_reducible refine gate_callee (f := 12) rfl ?_); refine goesL_ (some 16) rfl rfl Tryd.func12 (by kernel_rfl) rfl #[.agg #[.int .i64 a0_0, .int .i64 a0_1, .slice A0_2 l0_2.length c0_2]] rfl qq0 ?_; (with_reducible refine (smf_Check.calls k a0_0 a0_1 _ _ l0_2 t102 t103 _ ?side1 ?side2 A2.out).mono ?_); (case side1 => repeat (first | exact (Kd.C_below HR0_2.out HB.out) | (with_reducible refine Kd.C_alloc ?_ _) | (with_reducible refine Kd.C_drewN ?_ _) | (with_reducible refine Kd.C_drew ?_))); (case side2 => exact HC0_2.out); rintro e w42 ⟨rfl, hb⟩; refine ⟨_, rfl, ?_⟩; replace BK101 := Aside0.mk (blk_below (bq BK101.out) hb); replace HB := Aside0.mk (below_step (qS1 GE101 HB.out) hb); (try clear hb); (try clear hb2); (try clear hk); (try clear hi)))
    go_ret2
    exact ⟨qq4, qS1 GE101 HB.out⟩
  rw [if_pos c3] at H
  have c3b0 : (t103 == 0) = true := beq_iff_eq.mpr c3
  have c3b1 : (t103 != 0) = false := bne_eq_false_iff_eq.mpr c3
  clear c3
  obtain ⟨y104, hy104⟩ : ∃ y_ : List Int, y_ = (([77, 84, 104, 100, 0, 0, 0, 6] : List Int)) := ⟨_, rfl⟩
  replace H : ((some (([a0_0, (l0_2.length : Int), a0_1] : List Int) : List Int)).bind fun y107 => (smf_Print.l0 k y104 y107 (y107.length : Int) 0 a0_0 a0_1 l0_2)) = some (r1, r2) := by first | (rw [hy104]; with_reducible exact H) | (have H2_ := (Option.bind_some _ _).symm.trans H; rw [hy104]; with_reducible exact H2_) | (have H2_ := (Option.bind_some _ _).symm.trans H; with_reducible exact H2_) | with_reducible exact H | (rw [hy104]; exact H) | exact H
  have Ny104 := Aside0.mk hy104
  clear hy104
  obtain ⟨y107, hy107⟩ : ∃ y_ : List Int, y_ = (([a0_0, (l0_2.length : Int), a0_1] : List Int)) := ⟨_, rfl⟩
  replace H : (smf_Print.l0 k y104 y107 (y107.length : Int) 0 a0_0 a0_1 l0_2) = some (r1, r2) := by first | (rw [hy107]; with_reducible exact H) | (have H2_ := (Option.bind_some _ _).symm.trans H; rw [hy107]; with_reducible exact H2_) | (have H2_ := (Option.bind_some _ _).symm.trans H; with_reducible exact H2_) | with_reducible exact H | (rw [hy107]; exact H) | exact H
  have Ny107 := Aside0.mk hy107
  clear hy107
  have H' := Aside0.mk H
  clear H
  go_enter Tryd.func9, Tryd.ntmps9
  go_wp2_with (first | ((with_reducible refine gate_dst (N := 1) rfl ?_); refine box_event ?hg (N := 1) ?hd (cs := #[.int .i64 a0_0, .int .i64 a0_1, .slice A0_2 l0_2.length c0_2]) (t := 32) ?hr ?_; (case hd => rfl); (case hg => rfl); (case hr => exact qq8); intro gb101 hg w4 hbox hb; have BK101 := Aside0.mk (hbox); have GW101 := Aside0.mk ((qq7 : w.heap.size ≤ gb101)); have GE101 := Aside0.mk ((qq7 : w.heap.size ≤ gb101)); replace HB := Aside0.mk (below_step (qB HB.out) hb); clear hb hbox hg; obtain ⟨hcz5_0, hcz5_1, hcz5_2, hfz5_0, hfz5_1, hfz5_2⟩ := blk3 BK101.out) | ((with_reducible refine gate_callee (f := 12) rfl ?_); refine goesL_ (some 16) rfl rfl Tryd.func12 (by kernel_rfl) rfl #[.agg #[.int .i64 a0_0, .int .i64 a0_1, .slice A0_2 l0_2.length c0_2]] rfl qq0 ?_; (with_reducible refine (smf_Check.calls k a0_0 a0_1 _ _ l0_2 t102 t103 _ ?side1 ?side2 A2.out).mono ?_); (case side1 => repeat (first | exact (Kd.C_below HR0_2.out HB.out) | (with_reducible refine Kd.C_alloc ?_ _) | (with_reducible refine Kd.C_drewN ?_ _) | (with_reducible refine Kd.C_drew ?_))); (case side2 => exact HC0_2.out); rintro e w6 ⟨rfl, hb⟩; refine ⟨_, rfl, ?_⟩; replace BK101 := Aside0.mk (blk_below (bq BK101.out) hb); replace HB := Aside0.mk (below_step (qS1 GE101 HB.out) hb); (try clear hb); (try clear hb2); (try clear hk); (try clear hi); have hcz9_0 : (w6.alloc (.cells #[.int .u8 77, .int .u8 84, .int .u8 104, .int .u8 100, .int .u8 0, .int .u8 0, .int .u8 0, .int .u8 6] 5 (8, 9))).cell? ⟨gb101, 0, none⟩ = some (.int .i64 a0_0) := (blk_cell (blk_alloc BK101.out _) 0).trans rfl; have hfz9_0 := blk_frozen (blk_alloc BK101.out (.cells #[.int .u8 77, .int .u8 84, .int .u8 104, .int .u8 100, .int .u8 0, .int .u8 0, .int .u8 0, .int .u8 6] 5 (8, 9))) 0; have hcz9_1 : (w6.alloc (.cells #[.int .u8 77, .int .u8 84, .int .u8 104, .int .u8 100, .int .u8 0, .int .u8 0, .int .u8 0, .int .u8 6] 5 (8, 9))).cell? ⟨gb101, 1, none⟩ = some (.int .i64 a0_1) := (blk_cell (blk_alloc BK101.out _) 1).trans rfl; have hfz9_1 := blk_frozen (blk_alloc BK101.out (.cells #[.int .u8 77, .int .u8 84, .int .u8 104, .int .u8 100, .int .u8 0, .int .u8 0, .int .u8 0, .int .u8 6] 5 (8, 9))) 1; have hcz9_2 : (w6.alloc (.cells #[.int .u8 77, .int .u8 84, .int .u8 104, .int .u8 100, .int .u8 0, .int .u8 0, .int .u8 0, .int .u8 6] 5 (8, 9))).cell? ⟨gb101, 2, none⟩ = some (.slice A0_2 l0_2.length c0_2) := (blk_cell (blk_alloc BK101.out _) 2).trans rfl; have hfz9_2 := blk_frozen (blk_alloc BK101.out (.cells #[.int .u8 77, .int .u8 84, .int .u8 104, .int .u8 100, .int .u8 0, .int .u8 0, .int .u8 0, .int .u8 6] 5 (8, 9))) 2) | ((with_reducible refine gate_dst (N := 31) rfl ?_); refine Kd.R_lit (Kd.int .i64) _ 3 ?hg (N := 31) ?hd (xs := ([a0_0, (l0_2.length : Int), a0_1] : List Int)) (inner := [.int .i64 a0_0, .int .i64 (l0_2.length : Int), .int .i64 a0_1]) (ok := fun _ => True) (okp := fun _ => True) ?hr ?hp (fun _ hk => hk) trivial (Below.refl _ _) (Nat.le_refl _) (by simp) ?_; (case hd => rfl); (case hg => rfl); (case hr => exact qq8); (case hp => exact (Reps.one (show Kd.M (Kd.int .i64) _ _ _ a0_0 [.int .i64 a0_0] from rfl) (Reps.one (show Kd.M (Kd.int .i64) _ _ _ (l0_2.length : Int) [.int .i64 (l0_2.length : Int)] from rfl) (Reps.one (show Kd.M (Kd.int .i64) _ _ _ a0_1 [.int .i64 a0_1] from rfl) (Reps.none _ _))))); intro v108 w10 ho11 hb hg_ hnew_; clear hg_ hnew_; (first | rw [← Ny107.out] at ho11 | (simp only [Int.reduceToNat] at ho11; rw [← Ny107.out] at ho11)); have HO106 := Aside0.mk (MkRow.below (MkRow.start w6 Ny104.out (below_size HB.out)) hb); have HO109 := Aside0.mk (Kd.R_lower ho11 (below_size (qS1 GE101 HB.out))); replace BK101 := Aside0.mk (blk_below (bq BK101.out) hb); replace HB := Aside0.mk (below_step (qS1 GE101 HB.out) hb); clear hb ho11; obtain ⟨Ao12, co12, eo12⟩ := Kd.R_slice HO109.out; subst eo12))
  go_loopg [6, 33] k (fun kq v6 v33 w' => ∃ (x6_1 : List Int) (x33_1 : Int), v33 = .int .i64 x33_1 ∧ Aside0 (smf_Print.l0 kq x6_1 y107 (y107.length : Int) x33_1 a0_0 a0_1 l0_2 = some (r1, r2)) ∧ Aside0 (kq ≤ k) ∧ Aside0 (Kd.R (Kd.int .u8) 5 w' w.heap.size (fun _ => True) v6 x6_1 ∨ (MkRow w' w.heap.size v6 x6_1 ∧ x33_1 = 0)) ∧ Aside0 (Kd.R (Kd.int .i64) 3 w' w.heap.size (fun _ => True) (.slice Ao12 y107.length co12) y107) ∧ Aside0 (w'.heap[gb101]? = some (.cells #[.int .i64 a0_0, .int .i64 a0_1, (.slice A0_2 l0_2.length c0_2)] 32 (0, 0))) ∧ Aside0 (Below w.heap.size w w'))
  case atStart => exact ⟨(y104), (0), qq6, H', ⟨Nat.le_refl _⟩, ⟨.inr ⟨(by repeat (first | exact HO106.out | refine MkRow.alloc ?_ _ | refine MkRow.drew ?_)), rfl⟩⟩, ⟨qR HO109.out⟩, ⟨bq BK101.out⟩, ⟨qS1 GE101 HB.out⟩⟩
  case round =>
    clear H'
    try clear c1
    try clear p2
    try clear c3
    try clear c3b0
    try clear c3b1
    try clear c9
    try clear c12
    try clear hcz5_0
    try clear hcz5_1
    try clear hcz5_2
    try clear hcz9_0
    try clear hcz9_1
    try clear hcz9_2
    try clear hfz5_0
    try clear hfz5_1
    try clear hfz5_2
    try clear hfz9_0
    try clear hfz9_1
    try clear hfz9_2
    obtain ⟨x6_1, x33_1, rfl, HA, HK1, HO_6, HO_31, BK101, HB⟩ := hrel
    cases gk with
    | zero => exact absurd HA.out (by simp [smf_Print.l0])
    | succ k1 =>
      have H := HA.out
      clear HA
      simp only [smf_Print.l0] at H
      by_cases c13 : x33_1 < (y107.length : Int)
      · rw [if_pos c13] at H
        have c13b0 : decide (x33_1 < (y107.length : Int)) = true := decide_eq_true c13
        clear c13
        by_cases c14 : 0 ≤ x33_1
        rotate_left
        · rw [if_neg c14] at H
          exact absurd H (by simp)
        rw [if_pos c14] at H
        have c14b0 : decide (0 ≤ x33_1) = true := decide_eq_true c14
        clear c14
        by_cases c15 : x33_1 < (y107.length : Int)
        rotate_left
        · rw [if_neg c15] at H
          exact absurd H (by simp)
        rw [if_pos c15] at H
        have c15b0 : decide (x33_1 < (y107.length : Int)) = true := decide_eq_true c15
        clear c15
        obtain ⟨y111, hy111⟩ : ∃ y_ : List Int, y_ = (([((rd y107 x33_1) / 256) % 256, (rd y107 x33_1) % 256] : List Int)) := ⟨_, rfl⟩
        replace H : (if x6_1.length + y111.length < 140737488355328 then (smf_Print.l0 k1 (x6_1 ++ y111) y107 (y107.length : Int) (wrap64 (x33_1 + 1)) a0_0 a0_1 l0_2) else (none)) = some (r1, r2) := by first | (rw [hy111]; with_reducible exact H) | (have H2_ := (Option.bind_some _ _).symm.trans H; rw [hy111]; with_reducible exact H2_) | (have H2_ := (Option.bind_some _ _).symm.trans H; with_reducible exact H2_) | with_reducible exact H | (rw [hy111]; exact H) | exact H
        have Ny111 := Aside0.mk hy111
        clear hy111
        by_cases c16 : x6_1.length + y111.length < 140737488355328
        rotate_left
        · rw [if_neg c16] at H
          exact absurd H (by simp)
        rw [if_pos c16] at H
        have LMc16 := Aside0.mk c16
        clear c16
        obtain ⟨y114, hy114⟩ : ∃ y_ : List Int, y_ = (x6_1 ++ y111) := ⟨_, rfl⟩
        replace H : (smf_Print.l0 k1 y114 y107 (y107.length : Int) (wrap64 (x33_1 + 1)) a0_0 a0_1 l0_2) = some (r1, r2) := by first | (rw [hy114]; with_reducible exact H) | (have H2_ := (Option.bind_some _ _).symm.trans H; rw [hy114]; with_reducible exact H2_) | (have H2_ := (Option.bind_some _ _).symm.trans H; with_reducible exact H2_) | with_reducible exact H | (rw [hy114]; exact H) | exact H
        have Ny114 := Aside0.mk hy114
        clear hy114
        have H' := Aside0.mk H
        clear H
        have p110 : 0 ≤ (x33_1 : Int) := of_decide_eq_true qq3
        have q110 : x33_1 < (y107.length : Int) := of_decide_eq_true qq3
        obtain ⟨ad110, e110, hx110_0⟩ := Kd.at_int (Kd.R_reads' HO_31.out).2.2 x33_1 p110 q110
        cases e110
        replace p110 := eq_true p110
        replace q110 := eq_true q110
        rcases HO_6.out with hO6 | ⟨hM6, h33⟩
        · clear HO_6
          have HO_6 := Aside0.mk hO6
          clear hO6
          go_wp2_with (first | ((with_reducible refine gate_dst (N := 43) rfl ?_); refine Kd.R_lit (Kd.int .u8) _ 5 ?hg (N := 43) ?hd (xs := ([((rd y107 x33_1) / 256) % 256, (rd y107 x33_1) % 256] : List Int)) (inner := [.int .u8 (((rd y107 x33_1) / 256) % 256), .int .u8 ((rd y107 x33_1) % 256)]) (ok := fun _ => True) (okp := fun _ => True) ?hr ?hp (fun _ hk => hk) trivial (Below.refl _ _) (Nat.le_refl _) (by simp) ?_; (case hd => rfl); (case hg => rfl); (case hr => exact qq8); (case hp => exact qqA); intro v112 w17 ho18 hb hg_ hnew_; clear hg_ hnew_; (first | rw [← Ny111.out] at ho18 | (simp only [Int.reduceToNat] at ho18; rw [← Ny111.out] at ho18)); replace HO_31 := Aside0.mk (Kd.R_below (qR HO_31.out) hb); have HO113 := Aside0.mk (Kd.R_lower (Kd.R_new' ho18 (Kd.R_lt (qR HO_6.out))) (below_size (qS1 GE101 HB.out))); replace HO_6 := Aside0.mk (Kd.R_elder' (qR HO_6.out) (Kd.R_base ho18) hb); replace BK101 := Aside0.mk (blk_below (bq BK101.out) hb); replace HB := Aside0.mk (below_step (qS1 GE101 HB.out) hb); clear hb ho18; obtain ⟨Ao20, co20, eo20⟩ := Kd.R_slice HO113.out; subst eo20) | ((with_reducible refine gate_builtin (b := .append) (xs := #[.tmp 37, .tmp 43]) rfl ?_); at_builtin; refine Kd.R_append_rows (Kd.int .u8) (w0 := w) w.heap.size rfl (.tmp 37) (.tmp 43) 56 5 (.int .u8 0) 1 rfl Tryd.underlying56 info5 rfl (by decide) (by omega) u6 x6_1 y111 _ _ _ (fun k_ => some k_ ≠ (.slice Ao20 y111.length co20 : Value).ownBlock) (fun _ => False) rfl rfl ?aO ?aR (fun _ _ h => h) (fun _ h => h.elim) ?aF ?aB ?aS ?aL ?_; (case aR => repeat (first | exact (Kd.R_reads' HO113.out).2.2 | (with_reducible refine Kd.C_alloc ?_ _) | (with_reducible refine Kd.C_drewN ?_ _) | (with_reducible refine Kd.C_drew ?_))); (case aB => exact (qS1 GE101 HB.out)); (case aF => exact (fun k_ hk => Kd.fresh' (Kd.R_lt (qR HO113.out)) k_ hk)); (case aO => exact (by (with_reducible repeat (first | apply Kd.R_alloc | apply Kd.R_drewN | apply Kd.R_drew)); exact Kd.R_mono HO_6.out (fun _ hk => hk.2))); (case aS => exact (below_size (qS1 GE101 HB.out))); (case aL => have := LMc16.out; omega); intro v115 w19 ho hb hg hat; rw [← Ny114.out] at ho; replace HO_31 := Aside0.mk (Kd.R_over' (qR HO_31.out) (Kd.R_typed (qR HO_6.out)) (by decide) hg); replace BK101 := Aside0.mk (blk_grown (bq BK101.out) hg (Kd.R_ne HO_6.out BK101.out (by decide))); replace HO113 := Aside0.mk (Kd.R_after (ok := (fun _ => True)) (qR HO113.out) hg hat); replace HB := Aside0.mk (hb); have HO116 := Aside0.mk (ho); clear HO_6; clear ho hb hg hat))
          go_roundg k1
          case measure => have := HK1.out; omega
          case rel => exact ⟨(y114), (wrap64 (x33_1 + 1)), qq6, H', ⟨qqm⟩, ⟨.inl qqI⟩, ⟨qR HO_31.out⟩, ⟨bq BK101.out⟩, ⟨qS1 GE101 HB.out⟩⟩
        clear HO_6 h33
        have HO_6 := Aside0.mk hM6
        clear hM6
        go_wp2_with (first | ((with_reducible refine gate_dst (N := 43) rfl ?_); refine Kd.R_lit (Kd.int .u8) _ 5 ?hg (N := 43) ?hd (xs := ([((rd y107 x33_1) / 256) % 256, (rd y107 x33_1) % 256] : List Int)) (inner := [.int .u8 (((rd y107 x33_1) / 256) % 256), .int .u8 ((rd y107 x33_1) % 256)]) (ok := fun _ => True) (okp := fun _ => True) ?hr ?hp (fun _ hk => hk) trivial (Below.refl _ _) (Nat.le_refl _) (by simp) ?_; (case hd => rfl); (case hg => rfl); (case hr => exact qq8); (case hp => exact qqA); intro v112 w17 ho18 hb hg_ hnew_; clear hg_ hnew_; (first | rw [← Ny111.out] at ho18 | (simp only [Int.reduceToNat] at ho18; rw [← Ny111.out] at ho18)); replace HO_6 := Aside0.mk (MkRow.below (by repeat (first | exact HO_6.out | refine MkRow.alloc ?_ _ | refine MkRow.drew ?_)) hb); replace HO_31 := Aside0.mk (Kd.R_below (qR HO_31.out) hb); have HO113 := Aside0.mk (Kd.R_lower ho18 (below_size (qS1 GE101 HB.out))); replace BK101 := Aside0.mk (blk_below (bq BK101.out) hb); replace HB := Aside0.mk (below_step (qS1 GE101 HB.out) hb); clear hb ho18; obtain ⟨Ao20, co20, eo20⟩ := Kd.R_slice HO113.out; subst eo20) | ((with_reducible refine gate_builtin (b := .append) (xs := #[.tmp 37, .tmp 43]) rfl ?_); at_builtin; refine mark_append (w0 := w) w.heap.size rfl (.tmp 37) (.tmp 43) 56 rfl Tryd.underlying56 info5 u6 x6_1 y111 _ _ _ w.heap.size (fun _ => True) rfl rfl ?aP ?aO ?aY ?aB ?aS ?aL ?_; (case aP => rw [Ny111.out]; simp); (case aO => exact (by repeat (first | exact HO_6.out | refine MkRow.alloc ?_ _ | refine MkRow.drew ?_))); (case aY => exact (qR HO113.out)); (case aB => exact (qS1 GE101 HB.out)); (case aS => exact (below_size (qS1 GE101 HB.out))); (case aL => have := LMc16.out; omega); intro v115 w19 ho hb hg hat; rw [← Ny114.out] at ho; have n0_ := Aside0.mk (Kd.R_grown (qR HO_31.out) hg (fun _ _ => by simp)); have n1_ := Aside0.mk (blk_grown (bq BK101.out) hg (by simp)); have n3_ := Aside0.mk (hb); have n4_ := Aside0.mk (ho); clear HO_31; clear BK101; clear HO113; clear HB; clear HO_6; have HO_31 := n0_; have BK101 := n1_; have HB := n3_; have HO116 := n4_; clear n0_ n1_ n3_ n4_; clear ho hb hg hat))
        go_roundg k1
        case measure => have := HK1.out; omega
        case rel => exact ⟨(y114), (wrap64 (x33_1 + 1)), qq6, H', ⟨qqm⟩, ⟨.inl qqI⟩, ⟨qR HO_31.out⟩, ⟨bq BK101.out⟩, ⟨qS1 GE101 HB.out⟩⟩
      rw [if_neg c13] at H
      have hO6 := HO_6.out.resolve_right (fun h_ => c13 (by rw [h_.2, Ny107.out]; simp))
      clear HO_6
      have HO_6 := Aside0.mk hO6
      clear hO6
      have c13b0 : decide (x33_1 < (y107.length : Int)) = false := decide_eq_false c13
      clear c13
      have H' := Aside0.mk H
      clear H
      obtain ⟨hcz21_0, hcz21_1, hcz21_2, hfz21_0, hfz21_1, hfz21_2⟩ := blk3 BK101.out
      go_wp2
      go_loopg [6, 49] k1 (fun kq v6 v49 w' => ∃ (x6_2 : List Int) (x49_2 : Int), v49 = .int .i64 x49_2 ∧ Aside0 (smf_Print.l1 kq x6_2 l0_2 (l0_2.length : Int) x49_2 = some (r1, r2)) ∧ Aside0 (kq ≤ k1) ∧ Aside0 (Kd.R (Kd.int .u8) 5 w' w.heap.size (fun _ => True) v6 x6_2) ∧ Aside0 (w'.heap[gb101]? = some (.cells #[.int .i64 a0_0, .int .i64 a0_1, (.slice A0_2 l0_2.length c0_2)] 32 (0, 0))) ∧ Aside0 (Below w.heap.size w w'))
      case atStart => exact ⟨(x6_1), (0), qq6, H', ⟨Nat.le_refl _⟩, ⟨qR HO_6.out⟩, ⟨bq BK101.out⟩, ⟨qS1 GE101 HB.out⟩⟩
      case round =>
        clear H'
        try clear c1
        try clear p1
        try clear q1
        try clear hx1
        try clear p2
        try clear c3
        try clear c3b0
        try clear c3b1
        try clear p6
        try clear c9
        try clear p11
        try clear q11
        try clear hx11
        try clear c12
        try clear c13
        try clear c13b0
        try clear c14
        try clear c14b0
        try clear c15
        try clear c15b0
        try clear c16
        try clear hcz21_0
        try clear hcz21_1
        try clear hcz21_2
        try clear hcz5_0
        try clear hcz5_1
        try clear hcz5_2
        try clear hcz9_0
        try clear hcz9_1
        try clear hcz9_2
        try clear hfz21_0
        try clear hfz21_1
        try clear hfz21_2
        try clear hfz5_0
        try clear hfz5_1
        try clear hfz5_2
        try clear hfz9_0
        try clear hfz9_1
        try clear hfz9_2
        try clear hx110_0
        try clear p110
        try clear p2
        try clear q110
        obtain ⟨x6_2, x49_2, rfl, HA, HK2, HO_6, BK101, HB⟩ := hrel
        cases gk with
        | zero => exact absurd HA.out (by simp [smf_Print.l1])
        | succ k2 =>
          have H := HA.out
          clear HA
          simp only [smf_Print.l1] at H
          by_cases c22 : x49_2 < (l0_2.length : Int)
          rotate_left
          · rw [if_neg c22] at H
            have c22b0 : decide (x49_2 < (l0_2.length : Int)) = false := decide_eq_false c22
            clear c22
            by_cases c36 : (x6_2.length : Int) > 100000
            · rw [if_pos c36] at H
              have c36b0 : decide (100000 < (x6_2.length : Int)) = true := decide_eq_true c36
              have c36b1 : decide (100000 < x6_2.length) = true := decide_eq_true (by omega)
              clear c36
              simp only [Option.some.injEq, Prod.mk.injEq] at H
              obtain ⟨rfl, rfl⟩ := H
              obtain ⟨Ao37, co37, eo37⟩ := Kd.R_slice HO_6.out
              subst eo37
              go_wp2
              go_ret2
              exact ⟨qq4, qS1 GE101 HB.out⟩
            rw [if_neg c36] at H
            have c36b0 : decide (100000 < (x6_2.length : Int)) = false := decide_eq_false c36
            have c36b1 : decide (100000 < x6_2.length) = false := decide_eq_false (by omega)
            clear c36
            simp only [Option.some.injEq, Prod.mk.injEq] at H
            obtain ⟨rfl, rfl⟩ := H
            obtain ⟨Ao38, co38, eo38⟩ := Kd.R_slice HO_6.out
            subst eo38
            have hcv39 := own_string (P := Tryd.prog) Tryd.underlying56 Tryd.underlying5 Tryd.underlying9 (Kd.own_of_R HO_6.out)
            go_wp2
            go_ret2
            exact ⟨qq4, qS1 GE101 HB.out⟩
          rw [if_pos c22] at H
          have c22b0 : decide (x49_2 < (l0_2.length : Int)) = true := decide_eq_true c22
          clear c22
          by_cases c23 : 0 ≤ x49_2
          rotate_left
          · rw [if_neg c23] at H
            exact absurd H (by simp)
          rw [if_pos c23] at H
          have c23b0 : decide (0 ≤ x49_2) = true := decide_eq_true c23
          clear c23
          by_cases c24 : x49_2 < (l0_2.length : Int)
          rotate_left
          · rw [if_neg c24] at H
            exact absurd H (by simp)
          rw [if_pos c24] at H
          have c24b0 : decide (x49_2 < (l0_2.length : Int)) = true := decide_eq_true c24
          clear c24
          replace H := Option.bind_eq_some_iff.mp H
          obtain ⟨⟨t118, t119⟩, A250, H⟩ := H
          try dsimp -simprocs only at H
          have A25 := Aside0.mk A250
          clear A250
          by_cases c26 : x6_2.length + 4 < 140737488355328
          rotate_left
          · rw [if_neg c26] at H
            exact absurd H (by simp)
          rw [if_pos c26] at H
          have LMc26 := Aside0.mk c26
          clear c26
          obtain ⟨y120, hy120⟩ : ∃ y_ : List Int, y_ = (x6_2 ++ bytesOf (⟨#[77, 84, 114, 107]⟩ : ByteArray)) := ⟨_, rfl⟩
          replace H : ((some (([((t118.size : Int) / 16777216) % 256, ((t118.size : Int) / 65536) % 256, ((t118.size : Int) / 256) % 256, ((t118.size : Int)) % 256] : List Int) : List Int)).bind fun y123 => (if y120.length + y123.length < 140737488355328 then ((some (y120 ++ y123 : List Int)).bind fun y126 => (if y126.length + t118.size < 140737488355328 then (smf_Print.l1 k2 (y126 ++ bytesOf t118) l0_2 (l0_2.length : Int) (wrap64 (x49_2 + 1))) else (none))) else (none))) = some (r1, r2) := by first | (rw [hy120]; with_reducible exact H) | (have H2_ := (Option.bind_some _ _).symm.trans H; rw [hy120]; with_reducible exact H2_) | (have H2_ := (Option.bind_some _ _).symm.trans H; with_reducible exact H2_) | with_reducible exact H | (rw [hy120]; exact H) | exact H
          have Ny120 := Aside0.mk hy120
          clear hy120
          obtain ⟨y123, hy123⟩ : ∃ y_ : List Int, y_ = (([((t118.size : Int) / 16777216) % 256, ((t118.size : Int) / 65536) % 256, ((t118.size : Int) / 256) % 256, ((t118.size : Int)) % 256] : List Int)) := ⟨_, rfl⟩
          replace H : (if y120.length + y123.length < 140737488355328 then ((some (y120 ++ y123 : List Int)).bind fun y126 => (if y126.length + t118.size < 140737488355328 then (smf_Print.l1 k2 (y126 ++ bytesOf t118) l0_2 (l0_2.length : Int) (wrap64 (x49_2 + 1))) else (none))) else (none)) = some (r1, r2) := by first | (rw [hy123]; with_reducible exact H) | (have H2_ := (Option.bind_some _ _).symm.trans H; rw [hy123]; with_reducible exact H2_) | (have H2_ := (Option.bind_some _ _).symm.trans H; with_reducible exact H2_) | with_reducible exact H | (rw [hy123]; exact H) | exact H
          have Ny123 := Aside0.mk hy123
          clear hy123
          by_cases c27 : y120.length + y123.length < 140737488355328
          rotate_left
          · rw [if_neg c27] at H
            exact absurd H (by simp)
          rw [if_pos c27] at H
          have LMc27 := Aside0.mk c27
          clear c27
          obtain ⟨y126, hy126⟩ : ∃ y_ : List Int, y_ = (y120 ++ y123) := ⟨_, rfl⟩
          replace H : (if y126.length + t118.size < 140737488355328 then (smf_Print.l1 k2 (y126 ++ bytesOf t118) l0_2 (l0_2.length : Int) (wrap64 (x49_2 + 1))) else (none)) = some (r1, r2) := by first | (rw [hy126]; with_reducible exact H) | (have H2_ := (Option.bind_some _ _).symm.trans H; rw [hy126]; with_reducible exact H2_) | (have H2_ := (Option.bind_some _ _).symm.trans H; with_reducible exact H2_) | with_reducible exact H | (rw [hy126]; exact H) | exact H
          have Ny126 := Aside0.mk hy126
          clear hy126
          by_cases c28 : y126.length + t118.size < 140737488355328
          rotate_left
          · rw [if_neg c28] at H
            exact absurd H (by simp)
          rw [if_pos c28] at H
          have LMc28 := Aside0.mk c28
          clear c28
          obtain ⟨y129, hy129⟩ : ∃ y_ : List Int, y_ = (y126 ++ bytesOf t118) := ⟨_, rfl⟩
          replace H : (smf_Print.l1 k2 y129 l0_2 (l0_2.length : Int) (wrap64 (x49_2 + 1))) = some (r1, r2) := by first | (rw [hy129]; with_reducible exact H) | (have H2_ := (Option.bind_some _ _).symm.trans H; rw [hy129]; with_reducible exact H2_) | (have H2_ := (Option.bind_some _ _).symm.trans H; with_reducible exact H2_) | with_reducible exact H | (rw [hy129]; exact H) | exact H
          have Ny129 := Aside0.mk hy129
          clear hy129
          have H' := Aside0.mk H
          clear H
          have p117 : 0 ≤ (x49_2 : Int) := of_decide_eq_true qq3
          have q117 : x49_2 < (l0_2.length : Int) := of_decide_eq_true qq3
          obtain ⟨ad117, A117_0, c117_0, e117, hx117_0, hl117_0, hi117_0⟩ := at_L4 HR0_2.out x49_2 p117 q117
          cases e117
          replace hx117_0 := (HB.out.cell (World.block_lt_of_cell? w _ hx117_0)).trans hx117_0
          have HR117_0 := Aside0.mk hi117_0
          have HC117_0 := Aside0.mk hl117_0
          clear hi117_0 hl117_0
          replace p117 := eq_true p117
          replace q117 := eq_true q117
          go_wp2_with (first | ((with_reducible refine gate_callee (f := 11) rfl ?_); refine goesL_ (some 55) rfl rfl Tryd.func11 (by kernel_rfl) rfl #[.slice A117_0 (rd_L4 l0_2 x49_2).length c117_0] rfl qq0 ?_; (with_reducible refine (wire_Encode.calls k2 _ _ (rd_L4 l0_2 x49_2) t118 t119 _ ?side1 ?side2 A25.out).mono ?_); (case side1 => repeat (first | exact (Kd.C_below HR117_0.out HB.out) | (with_reducible refine Kd.C_alloc ?_ _) | (with_reducible refine Kd.C_drewN ?_ _) | (with_reducible refine Kd.C_drew ?_))); (case side2 => exact HC117_0.out); rintro e w29 ⟨rfl, hb⟩; refine ⟨_, rfl, ?_⟩; replace HO_6 := Aside0.mk (Kd.R_below (qR HO_6.out) hb); replace BK101 := Aside0.mk (blk_below (bq BK101.out) hb); replace HB := Aside0.mk (below_step (qS1 GE101 HB.out) hb); (try clear hb); (try clear hb2); (try clear hk); (try clear hi)) | (at_builtin; refine print_append_str (w0 := w) w.heap.size rfl (.tmp 60) _ 56 9 5 rfl Tryd.underlying56 Tryd.underlying9 info5 u6 x6_2 (⟨#[77, 84, 114, 107]⟩ : ByteArray) rfl rfl ?aO ?aB ?aS ?aL ?_; (case aB => exact (qS1 GE101 HB.out)); (case aO => exact (Kd.own_of_R (qR HO_6.out))); (case aS => exact (below_size (qS1 GE101 HB.out))); (case aL => have := LMc26.out; have h4_ : (⟨#[77, 84, 114, 107]⟩ : ByteArray).size = 4 := rfl; omega); intro v121 w30 ho0 hb hg; have ho := Kd.R_of_own (h1 := fun _ => rfl) (ok := fun _ => True) ho0 (fun _ _ => trivial); clear ho0; have hat := True.intro; rw [← Ny120.out] at ho; change Kd.R (Kd.int .u8) 5 w30 w.heap.size (fun _ => True) v121 y120 at ho; replace BK101 := Aside0.mk (blk_grown (bq BK101.out) hg (Kd.R_ne HO_6.out BK101.out (by decide))); replace HB := Aside0.mk (hb); have HO122 := Aside0.mk (ho); clear HO_6; clear ho hb hg hat) | ((with_reducible refine gate_dst (N := 73) rfl ?_); refine Kd.R_lit (Kd.int .u8) _ 5 ?hg (N := 73) ?hd (xs := ([((t118.size : Int) / 16777216) % 256, ((t118.size : Int) / 65536) % 256, ((t118.size : Int) / 256) % 256, ((t118.size : Int)) % 256] : List Int)) (inner := [.int .u8 (((t118.size : Int) / 16777216) % 256), .int .u8 (((t118.size : Int) / 65536) % 256), .int .u8 (((t118.size : Int) / 256) % 256), .int .u8 (((t118.size : Int)) % 256)]) (ok := fun _ => True) (okp := fun _ => True) ?hr ?hp (fun _ hk => hk) trivial (Below.refl _ _) (Nat.le_refl _) (by simp) ?_; (case hd => rfl); (case hg => rfl); (case hr => exact qq8); (case hp => exact (Reps.one (show Kd.M (Kd.int .u8) _ _ _ (((t118.size : Int) / 16777216) % 256) [.int .u8 (((t118.size : Int) / 16777216) % 256)] from rfl) (Reps.one (show Kd.M (Kd.int .u8) _ _ _ (((t118.size : Int) / 65536) % 256) [.int .u8 (((t118.size : Int) / 65536) % 256)] from rfl) (Reps.one (show Kd.M (Kd.int .u8) _ _ _ (((t118.size : Int) / 256) % 256) [.int .u8 (((t118.size : Int) / 256) % 256)] from rfl) (Reps.one (show Kd.M (Kd.int .u8) _ _ _ (((t118.size : Int)) % 256) [.int .u8 (((t118.size : Int)) % 256)] from rfl) (Reps.none _ _)))))); intro v124 w31 ho32 hb hg_ hnew_; clear hg_ hnew_; (first | rw [← Ny123.out] at ho32 | (simp only [Int.reduceToNat] at ho32; rw [← Ny123.out] at ho32)); have HO125 := Aside0.mk (Kd.R_lower (Kd.R_new' ho32 (Kd.R_lt (qR HO122.out))) (below_size (qS1 GE101 HB.out))); replace HO122 := Aside0.mk (Kd.R_elder' (qR HO122.out) (Kd.R_base ho32) hb); replace BK101 := Aside0.mk (blk_below (bq BK101.out) hb); replace HB := Aside0.mk (below_step (qS1 GE101 HB.out) hb); clear hb ho32; obtain ⟨Ao34, co34, eo34⟩ := Kd.R_slice HO125.out; subst eo34) | ((with_reducible refine gate_builtin (b := .append) (xs := #[.tmp 61, .tmp 73]) rfl ?_); at_builtin; refine Kd.R_append_rows (Kd.int .u8) (w0 := w) w.heap.size rfl (.tmp 61) (.tmp 73) 56 5 (.int .u8 0) 1 rfl Tryd.underlying56 info5 rfl (by decide) (by omega) v121 y120 y123 _ _ _ (fun k_ => some k_ ≠ (.slice Ao34 y123.length co34 : Value).ownBlock) (fun _ => False) rfl rfl ?aO ?aR (fun _ _ h => h) (fun _ h => h.elim) ?aF ?aB ?aS ?aL ?_; (case aR => repeat (first | exact (Kd.R_reads' HO125.out).2.2 | (with_reducible refine Kd.C_alloc ?_ _) | (with_reducible refine Kd.C_drewN ?_ _) | (with_reducible refine Kd.C_drew ?_))); (case aB => exact (qS1 GE101 HB.out)); (case aF => exact (fun k_ hk => Kd.fresh' (Kd.R_lt (qR HO125.out)) k_ hk)); (case aO => exact (by (with_reducible repeat (first | apply Kd.R_alloc | apply Kd.R_drewN | apply Kd.R_drew)); exact Kd.R_mono HO122.out (fun _ hk => hk.2))); (case aS => exact (below_size (qS1 GE101 HB.out))); (case aL => have := LMc27.out; omega); intro v127 w33 ho hb hg hat; rw [← Ny126.out] at ho; replace BK101 := Aside0.mk (blk_grown (bq BK101.out) hg (Kd.R_ne HO122.out BK101.out (by decide))); replace HO125 := Aside0.mk (Kd.R_after (ok := (fun _ => True)) (qR HO125.out) hg hat); replace HB := Aside0.mk (hb); have HO128 := Aside0.mk (ho); clear HO122; clear ho hb hg hat) | (at_builtin; refine print_append_str (w0 := w) w.heap.size rfl (.tmp 75) _ 56 9 5 rfl Tryd.underlying56 Tryd.underlying9 info5 v127 y126 t118 rfl rfl ?aO ?aB ?aS ?aL ?_; (case aB => exact (qS1 GE101 HB.out)); (case aO => exact (Kd.own_of_R (by (with_reducible repeat (first | apply Kd.R_alloc | apply Kd.R_drewN | apply Kd.R_drew)); exact Kd.R_mono HO128.out (fun _ hk => trivial)))); (case aS => exact (below_size (qS1 GE101 HB.out))); (case aL => have := LMc28.out; omega); intro v130 w35 ho0 hb hg; have ho := Kd.R_of_own (h1 := fun _ => rfl) (ok := fun _ => True) ho0 (fun _ _ => trivial); clear ho0; have hat := True.intro; rw [← Ny129.out] at ho; change Kd.R (Kd.int .u8) 5 w35 w.heap.size (fun _ => True) v130 y129 at ho; replace BK101 := Aside0.mk (blk_grown (bq BK101.out) hg (Kd.R_ne HO128.out BK101.out (by decide))); replace HB := Aside0.mk (hb); have HO131 := Aside0.mk (ho); clear HO128; clear ho hb hg hat))
          go_roundg k2
          case measure => have := HK1.out; have := HK2.out; omega
          case rel => exact ⟨(y129), (wrap64 (x49_2 + 1)), qq6, H', ⟨qqL⟩, ⟨qR HO131.out⟩, ⟨bq BK101.out⟩, ⟨qS1 GE101 HB.out⟩⟩
end Go.Proofs.YtdmnknhlibaaoaaDoor.M
namespace Go.Proofs.YtdmnknhlibaaoaaDoor.M
open Go.RowKit Go.Proofs.YtdmnknhlibaaoaaDoorW.PrintWords Go.Proofs.YtdmnknhlibaaoaaDoorW.PrintLast Go.Proofs.YtdmnknhlibaaoaaDoorW.PrintMore
attribute [local go_sem] max2_int min2_int max_two min_two max_three min_three max_four min_four
set_option linter.unusedVariables false
set_option linter.unusedSimpArgs false
theorem eqA39 (d : Nat) (w : World) (x0 y0 : Int) (x1 y1 : Int) (x2 y2 : Int) (x3 y3 : Int) (x4 y4 : Int) (x5 y5 : ByteArray) :
    (Op.equalIn (d + 2) 39 (.agg #[.int .i64 x0, .int .i64 x1, .int .i64 x2, .int .i64 x3, .int .i64 x4, .string x5]) (.agg #[.int .i64 y0, .int .i64 y1, .int .i64 y2, .int .i64 y3, .int .i64 y4, .string y5])).run Tryd.prog w = .ok (x0 == y0 && (x1 == y1 && (x2 == y2 && (x3 == y3 && (x4 == y4 && (x5.toList == y5.toList)))))) w := by
  refine eqA_of Tryd.underlying39 (by kernel_rfl) ?_
  refine eqf_cons (by rfl) qqF qqF (by go_simp) ?_
  refine eqf_cons (by rfl) qqF qqF (by go_simp) ?_
  refine eqf_cons (by rfl) qqF qqF (by go_simp) ?_
  refine eqf_cons (by rfl) qqF qqF (by go_simp) ?_
  refine eqf_cons (by rfl) qqF qqF (by go_simp) ?_
  exact eqf_last (by rfl) qqF qqF (by go_simp)
end Go.Proofs.YtdmnknhlibaaoaaDoor.M
namespace Go.Proofs.YtdmnknhlibaaoaaDoor.M
open Go.RowKit Go.Proofs.YtdmnknhlibaaoaaDoorW.PrintWords Go.Proofs.YtdmnknhlibaaoaaDoorW.PrintLast Go.Proofs.YtdmnknhlibaaoaaDoorW.PrintMore
attribute [local go_sem] max2_int min2_int max_two min_two max_three min_three max_four min_four
set_option linter.unusedVariables false
set_option linter.unusedSimpArgs false
attribute [local go_sem high] eqA39
def api_Midi_30.l0 : Nat → List (S39) → List (S39) → Int → Int → Option (Bool)
  | 0, _, _, _, _ => none
  | k + 1, x0, x1, x12, x13 => if x13 < x12 then (if 0 ≤ x13 then (if x13 < (x0.length : Int) then (if x13 < (x1.length : Int) then (if (!(((rd_T39 x0 x13).f0) == ((rd_T39 x1 x13).f0)) || (!(((rd_T39 x0 x13).f1) == ((rd_T39 x1 x13).f1)) || (!(((rd_T39 x0 x13).f2) == ((rd_T39 x1 x13).f2)) || (!(((rd_T39 x0 x13).f3) == ((rd_T39 x1 x13).f3)) || (!(((rd_T39 x0 x13).f4) == ((rd_T39 x1 x13).f4)) || (!((((rd_T39 x0 x13).f5).toList) == (((rd_T39 x1 x13).f5).toList)))))))) = true then (some false) else (api_Midi_30.l0 k x0 x1 x12 (wrap64 (x13 + 1)))) else (none)) else (none)) else (none)) else (some true)
def api_Midi_30.f (k : Nat) (l0 : List (S39)) (l1 : List (S39)) : Option (Bool) := if (l0.length : Int) = (l1.length : Int) then (api_Midi_30.l0 k l0 l1 (l0.length : Int) 0) else (some false)
theorem api_Midi_30.mono_l : ∀ k, (∀ y0 y1 y2 y3, LeO (api_Midi_30.l0 k y0 y1 y2 y3) (api_Midi_30.l0 (k + 1) y0 y1 y2 y3))
  | 0 => fun _ _ _ _ r h => by simp [api_Midi_30.l0] at h
  | k + 1 => by
    have ih0 := api_Midi_30.mono_l k
    · intro y0 y1 y2 y3
      unfold api_Midi_30.l0
      repeat' first
      | (with_reducible exact ih0 _ _ _ _)
      | (with_reducible exact LeO.refl _)
      | (with_reducible exact LeO.none _)
      | (with_reducible refine LeO.ite ?_ ?_)
      | (with_reducible refine LeO.bind ?_ (fun _ => ?_))
      | exact ih0 _ _ _ _
      | exact LeO.none _
      | refine LeO.ite ?_ ?_
      | refine LeO.bind ?_ (fun _ => ?_)
theorem api_Midi_30.mono : ∀ a0 a1 k, LeO (api_Midi_30.f k a0 a1) (api_Midi_30.f (k + 1) a0 a1) := by
  intro a0 a1 k
  have ih0 := api_Midi_30.mono_l k
  unfold api_Midi_30.f
  repeat' first
      | (with_reducible exact ih0 _ _ _ _)
      | (with_reducible exact LeO.refl _)
      | (with_reducible exact LeO.none _)
      | (with_reducible refine LeO.ite ?_ ?_)
      | (with_reducible refine LeO.bind ?_ (fun _ => ?_))
      | exact ih0 _ _ _ _
      | exact LeO.none _
      | refine LeO.ite ?_ ?_
      | refine LeO.bind ?_ (fun _ => ?_)
set_option maxHeartbeats 8000000 in
set_option maxRecDepth 100000 in
theorem api_Midi_30.calls (k : Nat) (A0 : Option Addr) (c0 : Nat) (l0 : List (S39)) (A1 : Option Addr) (c1 : Nat) (l1 : List (S39)) (r : Bool) (w : World) (hr0 : Kd.C k39 w A0 l0.length l0) (hc0 : l0.length ≤ c0) (hr1 : Kd.C k39 w A1 l1.length l1) (hc1 : l1.length ≤ c1) (h : api_Midi_30.f k l0 l1 = some r) :
    Calls Tryd.prog 30 #[.slice A0 l0.length c0, .slice A1 l1.length c1] w fun e w' => e = .returned (.bool r) ∧ Drawn0 w w' := by
  have hu39 := Tryd.underlying39
  have HR0 := Aside0.mk hr0
  have HC0 := Aside0.mk hc0
  clear hr0 hc0
  have HR1 := Aside0.mk hr1
  have HC1 := Aside0.mk hc1
  clear hr1 hc1
  have H := h
  unfold api_Midi_30.f at H
  clear h
  by_cases c3 : (l0.length : Int) = (l1.length : Int)
  rotate_left
  · rw [if_neg c3] at H
    have c3b0 : ((l0.length : Int) == (l1.length : Int)) = false := beq_eq_false_iff_ne.mpr c3
    have c3b1 : ((l0.length : Int) != (l1.length : Int)) = true := bne_iff_ne.mpr c3
    have c3b2 : (l0.length == l1.length) = false := by first | simpa using c3 | (simp at c3 ⊢; omega)
    obtain rfl := Option.some.inj H
    go_enter Tryd.func30, Tryd.ntmps30
    go_wp2
    repeat (go_quiet (fail); try go_wp2)
    go_ret
    exact ⟨qq6, qq9⟩
  rw [if_pos c3] at H
  have c3b0 : ((l0.length : Int) == (l1.length : Int)) = true := beq_iff_eq.mpr c3
  have c3b1 : ((l0.length : Int) != (l1.length : Int)) = false := bne_eq_false_iff_eq.mpr c3
  have c3b2 : (l0.length == l1.length) = true := by first | simpa using c3 | (simp at c3 ⊢; omega)
  clear c3
  have H' := Aside0.mk H
  clear H
  go_enter Tryd.func30, Tryd.ntmps30
  go_wp2
  repeat (go_quiet (fail); try go_wp2)
  go_loopg [13] k (fun kq v13 w' => ∃ (x13_1 : Int), v13 = .int .i64 x13_1 ∧ Aside0 (api_Midi_30.l0 kq l0 l1 (l0.length : Int) x13_1 = some r) ∧ Aside0 (kq ≤ k) ∧ Drawn0 w w')
  case atStart => exact ⟨(0), qq6, H', ⟨Nat.le_refl _⟩, qq9⟩
  case round =>
    clear H'
    try clear c1
    try clear p2
    try clear c3
    try clear c3b0
    try clear c3b1
    try clear c3b2
    obtain ⟨x13_1, rfl, HA, HK1, ⟨m1, rfl⟩⟩ := hrel
    cases gk with
    | zero => exact absurd HA.out (by simp [api_Midi_30.l0])
    | succ k1 =>
      have H := HA.out
      clear HA
      simp only [api_Midi_30.l0] at H
      by_cases c4 : x13_1 < (l0.length : Int)
      rotate_left
      · rw [if_neg c4] at H
        have c4b0 : decide (x13_1 < (l0.length : Int)) = false := decide_eq_false c4
        clear c4
        obtain rfl := Option.some.inj H
        go_wp2
        repeat (go_quiet (fail); try go_wp2)
        go_ret
        exact ⟨qq6, qq9⟩
      rw [if_pos c4] at H
      have c4b0 : decide (x13_1 < (l0.length : Int)) = true := decide_eq_true c4
      clear c4
      by_cases c5 : 0 ≤ x13_1
      rotate_left
      · rw [if_neg c5] at H
        exact absurd H (by simp)
      rw [if_pos c5] at H
      have c5b0 : decide (0 ≤ x13_1) = true := decide_eq_true c5
      clear c5
      by_cases c6 : x13_1 < (l0.length : Int)
      rotate_left
      · rw [if_neg c6] at H
        exact absurd H (by simp)
      rw [if_pos c6] at H
      have c6b0 : decide (x13_1 < (l0.length : Int)) = true := decide_eq_true c6
      clear c6
      by_cases c7 : x13_1 < (l1.length : Int)
      rotate_left
      · rw [if_neg c7] at H
        exact absurd H (by simp)
      rw [if_pos c7] at H
      have c7b0 : decide (x13_1 < (l1.length : Int)) = true := decide_eq_true c7
      clear c7
      by_cases c8 : (!(((rd_T39 l0 x13_1).f0) == ((rd_T39 l1 x13_1).f0)) || (!(((rd_T39 l0 x13_1).f1) == ((rd_T39 l1 x13_1).f1)) || (!(((rd_T39 l0 x13_1).f2) == ((rd_T39 l1 x13_1).f2)) || (!(((rd_T39 l0 x13_1).f3) == ((rd_T39 l1 x13_1).f3)) || (!(((rd_T39 l0 x13_1).f4) == ((rd_T39 l1 x13_1).f4)) || (!((((rd_T39 l0 x13_1).f5).toList) == (((rd_T39 l1 x13_1).f5).toList)))))))) = true
      · rw [if_pos c8] at H
        have c8b0 : (!(((rd_T39 l0 x13_1).f0) == ((rd_T39 l1 x13_1).f0)) || (!(((rd_T39 l0 x13_1).f1) == ((rd_T39 l1 x13_1).f1)) || (!(((rd_T39 l0 x13_1).f2) == ((rd_T39 l1 x13_1).f2)) || (!(((rd_T39 l0 x13_1).f3) == ((rd_T39 l1 x13_1).f3)) || (!(((rd_T39 l0 x13_1).f4) == ((rd_T39 l1 x13_1).f4)) || (!((((rd_T39 l0 x13_1).f5).toList) == (((rd_T39 l1 x13_1).f5).toList)))))))) = true := c8
        clear c8
        obtain rfl := Option.some.inj H
        have p101 : 0 ≤ (x13_1 : Int) := of_decide_eq_true qq3
        have q101 : x13_1 < (l0.length : Int) := of_decide_eq_true qq3
        obtain ⟨ad101, e101, hx101_0, hx101_1, hx101_2, hx101_3, hx101_4, hx101_5⟩ := at_T39 HR0.out x13_1 p101 q101
        cases e101
        replace p101 := eq_true p101
        replace q101 := eq_true q101
        have p102 : 0 ≤ (x13_1 : Int) := of_decide_eq_true qq3
        have q102 : x13_1 < (l1.length : Int) := of_decide_eq_true qq3
        obtain ⟨ad102, e102, hx102_0, hx102_1, hx102_2, hx102_3, hx102_4, hx102_5⟩ := at_T39 HR1.out x13_1 p102 q102
        cases e102
        replace p102 := eq_true p102
        replace q102 := eq_true q102
        go_wp2
        repeat (go_quiet (fail); try go_wp2)
        go_ret
        exact ⟨qq6, qq9⟩
      rw [if_neg c8] at H
      have c8b0 : (!(((rd_T39 l0 x13_1).f0) == ((rd_T39 l1 x13_1).f0)) || (!(((rd_T39 l0 x13_1).f1) == ((rd_T39 l1 x13_1).f1)) || (!(((rd_T39 l0 x13_1).f2) == ((rd_T39 l1 x13_1).f2)) || (!(((rd_T39 l0 x13_1).f3) == ((rd_T39 l1 x13_1).f3)) || (!(((rd_T39 l0 x13_1).f4) == ((rd_T39 l1 x13_1).f4)) || (!((((rd_T39 l0 x13_1).f5).toList) == (((rd_T39 l1 x13_1).f5).toList)))))))) = false := by simpa using c8
      clear c8
      have H' := Aside0.mk H
      clear H
      have p101 : 0 ≤ (x13_1 : Int) := of_decide_eq_true qq3
      have q101 : x13_1 < (l0.length : Int) := of_decide_eq_true qq3
      obtain ⟨ad101, e101, hx101_0, hx101_1, hx101_2, hx101_3, hx101_4, hx101_5⟩ := at_T39 HR0.out x13_1 p101 q101
      cases e101
      replace p101 := eq_true p101
      replace q101 := eq_true q101
      have p102 : 0 ≤ (x13_1 : Int) := of_decide_eq_true qq3
      have q102 : x13_1 < (l1.length : Int) := of_decide_eq_true qq3
      obtain ⟨ad102, e102, hx102_0, hx102_1, hx102_2, hx102_3, hx102_4, hx102_5⟩ := at_T39 HR1.out x13_1 p102 q102
      cases e102
      replace p102 := eq_true p102
      replace q102 := eq_true q102
      go_wp2
      repeat (go_quiet (fail); try go_wp2)
      go_roundg k1
      case measure => have := HK1.out; omega
      case rel => exact ⟨(wrap64 (x13_1 + 1)), qq6, H', ⟨qqm⟩, qq9⟩
end Go.Proofs.YtdmnknhlibaaoaaDoor.M
namespace Go.Proofs.YtdmnknhlibaaoaaDoor.M
open Go.RowKit Go.Proofs.YtdmnknhlibaaoaaDoorW.PrintWords Go.Proofs.YtdmnknhlibaaoaaDoorW.PrintLast Go.Proofs.YtdmnknhlibaaoaaDoorW.PrintMore
attribute [local go_sem] max2_int min2_int max_two min_two max_three min_three max_four min_four
set_option linter.unusedVariables false
set_option linter.unusedSimpArgs false
def api_Midi_29.l0 : Nat → List (List (S39)) → List (List (S39)) → Int → Int → Option (Bool)
  | 0, _, _, _, _ => none
  | k + 1, x1, x15, x16, x17 => if x17 < x16 then (if 0 ≤ x17 then (if x17 < (x15.length : Int) then (if x17 < (x1.length : Int) then ((api_Midi_30.f k (rd_L4 x15 x17) (rd_L4 x1 x17)).bind fun t103 => (if t103 = true then (api_Midi_29.l0 k x1 x15 x16 (wrap64 (x17 + 1))) else (some false))) else (none)) else (none)) else (none)) else (some true)
def api_Midi_29.f (k : Nat) (l0 : List (List (S39))) (l1 : List (List (S39))) : Option (Bool) := if (l0.length : Int) = (l1.length : Int) then (api_Midi_29.l0 k l1 l0 (l0.length : Int) 0) else (some false)
theorem api_Midi_29.mono_l : ∀ k, (∀ y0 y1 y2 y3, LeO (api_Midi_29.l0 k y0 y1 y2 y3) (api_Midi_29.l0 (k + 1) y0 y1 y2 y3))
  | 0 => fun _ _ _ _ r h => by simp [api_Midi_29.l0] at h
  | k + 1 => by
    have ih0 := api_Midi_29.mono_l k
    · intro y0 y1 y2 y3
      unfold api_Midi_29.l0
      repeat' first
      | (with_reducible exact ih0 _ _ _ _)
      | (with_reducible exact api_Midi_30.mono _ _ _)
      | (with_reducible exact LeO.refl _)
      | (with_reducible exact LeO.none _)
      | (with_reducible refine LeO.ite ?_ ?_)
      | (with_reducible refine LeO.bind ?_ (fun _ => ?_))
      | exact ih0 _ _ _ _
      | exact api_Midi_30.mono _ _ _
      | exact LeO.none _
      | refine LeO.ite ?_ ?_
      | refine LeO.bind ?_ (fun _ => ?_)
theorem api_Midi_29.mono : ∀ a0 a1 k, LeO (api_Midi_29.f k a0 a1) (api_Midi_29.f (k + 1) a0 a1) := by
  intro a0 a1 k
  have ih0 := api_Midi_29.mono_l k
  unfold api_Midi_29.f
  repeat' first
      | (with_reducible exact ih0 _ _ _ _)
      | (with_reducible exact api_Midi_30.mono _ _ _)
      | (with_reducible exact LeO.refl _)
      | (with_reducible exact LeO.none _)
      | (with_reducible refine LeO.ite ?_ ?_)
      | (with_reducible refine LeO.bind ?_ (fun _ => ?_))
      | exact ih0 _ _ _ _
      | exact api_Midi_30.mono _ _ _
      | exact LeO.none _
      | refine LeO.ite ?_ ?_
      | refine LeO.bind ?_ (fun _ => ?_)
set_option maxHeartbeats 8000000 in
set_option maxRecDepth 100000 in
theorem api_Midi_29.calls (k : Nat) (A0 : Option Addr) (c0 : Nat) (l0 : List (List (S39))) (A1 : Option Addr) (c1 : Nat) (l1 : List (List (S39))) (r : Bool) (w : World) (hr0 : Kd.C (Kd.slice 39 k39) w A0 l0.length l0) (hc0 : l0.length ≤ c0) (hr1 : Kd.C (Kd.slice 39 k39) w A1 l1.length l1) (hc1 : l1.length ≤ c1) (h : api_Midi_29.f k l0 l1 = some r) :
    Calls Tryd.prog 29 #[.slice A0 l0.length c0, .slice A1 l1.length c1, .func (.func 30) #[] #[]] w fun e w' => e = .returned (.bool r) ∧ Drawn0 w w' := by
  have HR0 := Aside0.mk hr0
  have HC0 := Aside0.mk hc0
  clear hr0 hc0
  have HR1 := Aside0.mk hr1
  have HC1 := Aside0.mk hc1
  clear hr1 hc1
  have H := h
  unfold api_Midi_29.f at H
  clear h
  by_cases c3 : (l0.length : Int) = (l1.length : Int)
  rotate_left
  · rw [if_neg c3] at H
    have c3b0 : ((l0.length : Int) == (l1.length : Int)) = false := beq_eq_false_iff_ne.mpr c3
    have c3b1 : ((l0.length : Int) != (l1.length : Int)) = true := bne_iff_ne.mpr c3
    have c3b2 : (l0.length == l1.length) = false := by first | simpa using c3 | (simp at c3 ⊢; omega)
    obtain rfl := Option.some.inj H
    go_enter Tryd.func29, Tryd.ntmps29
    go_wp2
    go_ret
    exact ⟨qq6, qq9⟩
  rw [if_pos c3] at H
  have c3b0 : ((l0.length : Int) == (l1.length : Int)) = true := beq_iff_eq.mpr c3
  have c3b1 : ((l0.length : Int) != (l1.length : Int)) = false := bne_eq_false_iff_eq.mpr c3
  have c3b2 : (l0.length == l1.length) = true := by first | simpa using c3 | (simp at c3 ⊢; omega)
  clear c3
  have H' := Aside0.mk H
  clear H
  go_enter Tryd.func29, Tryd.ntmps29
  go_wp2
  go_loopg [17] k (fun kq v17 w' => ∃ (x17_1 : Int), v17 = .int .i64 x17_1 ∧ Aside0 (api_Midi_29.l0 kq l1 l0 (l0.length : Int) x17_1 = some r) ∧ Aside0 (kq ≤ k) ∧ Drawn0 w w')
  case atStart => exact ⟨(0), qq6, H', ⟨Nat.le_refl _⟩, qq9⟩
  case round =>
    clear H'
    try clear c1
    try clear c2
    try clear p2
    try clear c3
    try clear c3b0
    try clear c3b1
    try clear c3b2
    obtain ⟨x17_1, rfl, HA, HK1, ⟨m1, rfl⟩⟩ := hrel
    cases gk with
    | zero => exact absurd HA.out (by simp [api_Midi_29.l0])
    | succ k1 =>
      have H := HA.out
      clear HA
      simp only [api_Midi_29.l0] at H
      by_cases c4 : x17_1 < (l0.length : Int)
      rotate_left
      · rw [if_neg c4] at H
        have c4b0 : decide (x17_1 < (l0.length : Int)) = false := decide_eq_false c4
        clear c4
        obtain rfl := Option.some.inj H
        go_wp2
        go_ret
        exact ⟨qq6, qq9⟩
      rw [if_pos c4] at H
      have c4b0 : decide (x17_1 < (l0.length : Int)) = true := decide_eq_true c4
      clear c4
      by_cases c5 : 0 ≤ x17_1
      rotate_left
      · rw [if_neg c5] at H
        exact absurd H (by simp)
      rw [if_pos c5] at H
      have c5b0 : decide (0 ≤ x17_1) = true := decide_eq_true c5
      clear c5
      by_cases c6 : x17_1 < (l0.length : Int)
      rotate_left
      · rw [if_neg c6] at H
        exact absurd H (by simp)
      rw [if_pos c6] at H
      have c6b0 : decide (x17_1 < (l0.length : Int)) = true := decide_eq_true c6
      clear c6
      by_cases c7 : x17_1 < (l1.length : Int)
      rotate_left
      · rw [if_neg c7] at H
        exact absurd H (by simp)
      rw [if_pos c7] at H
      have c7b0 : decide (x17_1 < (l1.length : Int)) = true := decide_eq_true c7
      clear c7
      replace H := Option.bind_eq_some_iff.mp H
      obtain ⟨t103, A80, H⟩ := H
      try dsimp -simprocs only at H
      have A8 := Aside0.mk A80
      clear A80
      by_cases c9 : t103 = true
      rotate_left
      · replace c9 := Bool.eq_false_iff.mpr c9
        subst c9
        have H1 : (some false) = some r := by rw [if_neg (show ¬ (false = true) by decide)] at H; exact H
        clear H
        have H := H1
        clear H1
        obtain rfl := Option.some.inj H
        have p101 : 0 ≤ (x17_1 : Int) := of_decide_eq_true qq3
        have q101 : x17_1 < (l0.length : Int) := of_decide_eq_true qq3
        obtain ⟨ad101, A101_0, c101_0, e101, hx101_0, hl101_0, hi101_0⟩ := at_L4 HR0.out x17_1 p101 q101
        cases e101
        have HR101_0 := Aside0.mk hi101_0
        have HC101_0 := Aside0.mk hl101_0
        clear hi101_0 hl101_0
        replace p101 := eq_true p101
        replace q101 := eq_true q101
        have p102 : 0 ≤ (x17_1 : Int) := of_decide_eq_true qq3
        have q102 : x17_1 < (l1.length : Int) := of_decide_eq_true qq3
        obtain ⟨ad102, A102_0, c102_0, e102, hx102_0, hl102_0, hi102_0⟩ := at_L4 HR1.out x17_1 p102 q102
        cases e102
        have HR102_0 := Aside0.mk hi102_0
        have HC102_0 := Aside0.mk hl102_0
        clear hi102_0 hl102_0
        replace p102 := eq_true p102
        replace q102 := eq_true q102
        go_wp2_with (first | (refine goesV_ (some 29) rfl rfl Tryd.func30 (by kernel_rfl) rfl #[.slice A101_0 (rd_L4 l0 x17_1).length c101_0, .slice A102_0 (rd_L4 l1 x17_1).length c102_0] rfl qq0 ?_; (with_reducible refine (api_Midi_30.calls k1 _ _ (rd_L4 l0 x17_1) _ _ (rd_L4 l1 x17_1) false _ ?side1 ?side2 ?side3 ?side4 A8.out).mono ?_); (case side1 => repeat (first | exact HR101_0.out | (with_reducible refine Kd.C_alloc ?_ _) | (with_reducible refine Kd.C_drewN ?_ _) | (with_reducible refine Kd.C_drew ?_))); (case side2 => exact HC101_0.out); (case side3 => repeat (first | exact HR102_0.out | (with_reducible refine Kd.C_alloc ?_ _) | (with_reducible refine Kd.C_drewN ?_ _) | (with_reducible refine Kd.C_drew ?_))); (case side4 => exact HC102_0.out); rintro e w' ⟨rfl, ⟨nd, rfl⟩⟩; refine ⟨_, rfl, ?_⟩))
        go_ret
        exact ⟨qq6, qq9⟩
      subst c9
      have H1 : (api_Midi_29.l0 k1 l1 l0 (l0.length : Int) (wrap64 (x17_1 + 1))) = some r := by rw [if_pos rfl] at H; exact H
      clear H
      have H := H1
      clear H1
      have H' := Aside0.mk H
      clear H
      have p101 : 0 ≤ (x17_1 : Int) := of_decide_eq_true qq3
      have q101 : x17_1 < (l0.length : Int) := of_decide_eq_true qq3
      obtain ⟨ad101, A101_0, c101_0, e101, hx101_0, hl101_0, hi101_0⟩ := at_L4 HR0.out x17_1 p101 q101
      cases e101
      have HR101_0 := Aside0.mk hi101_0
      have HC101_0 := Aside0.mk hl101_0
      clear hi101_0 hl101_0
      replace p101 := eq_true p101
      replace q101 := eq_true q101
      have p102 : 0 ≤ (x17_1 : Int) := of_decide_eq_true qq3
      have q102 : x17_1 < (l1.length : Int) := of_decide_eq_true qq3
      obtain ⟨ad102, A102_0, c102_0, e102, hx102_0, hl102_0, hi102_0⟩ := at_L4 HR1.out x17_1 p102 q102
      cases e102
      have HR102_0 := Aside0.mk hi102_0
      have HC102_0 := Aside0.mk hl102_0
      clear hi102_0 hl102_0
      replace p102 := eq_true p102
      replace q102 := eq_true q102
      go_wp2_with (first | (refine goesV_ (some 29) rfl rfl Tryd.func30 (by kernel_rfl) rfl #[.slice A101_0 (rd_L4 l0 x17_1).length c101_0, .slice A102_0 (rd_L4 l1 x17_1).length c102_0] rfl qq0 ?_; (with_reducible refine (api_Midi_30.calls k1 _ _ (rd_L4 l0 x17_1) _ _ (rd_L4 l1 x17_1) true _ ?side1 ?side2 ?side3 ?side4 A8.out).mono ?_); (case side1 => repeat (first | exact HR101_0.out | (with_reducible refine Kd.C_alloc ?_ _) | (with_reducible refine Kd.C_drewN ?_ _) | (with_reducible refine Kd.C_drew ?_))); (case side2 => exact HC101_0.out); (case side3 => repeat (first | exact HR102_0.out | (with_reducible refine Kd.C_alloc ?_ _) | (with_reducible refine Kd.C_drewN ?_ _) | (with_reducible refine Kd.C_drew ?_))); (case side4 => exact HC102_0.out); rintro e w' ⟨rfl, ⟨nd, rfl⟩⟩; refine ⟨_, rfl, ?_⟩))
      go_roundg k1
      case measure => have := HK1.out; omega
      case rel => exact ⟨(wrap64 (x17_1 + 1)), qq6, H', ⟨qqm⟩, qq9⟩
def smf_Same.f (k : Nat) (a0_0 : Int) (a0_1 : Int) (l0_2 : List (List (S39))) (a1_0 : Int) (a1_1 : Int) (l1_2 : List (List (S39))) : Option (Bool) := if a0_0 = a1_0 then (if a0_1 = a1_1 then ((api_Midi_29.f k l0_2 l1_2).bind fun t103 => (some t103)) else (some false)) else (some false)
theorem smf_Same.mono : ∀ a0 a1 a2 a3 a4 a5 k, LeO (smf_Same.f k a0 a1 a2 a3 a4 a5) (smf_Same.f (k + 1) a0 a1 a2 a3 a4 a5) := by
  intro a0 a1 a2 a3 a4 a5 k
  unfold smf_Same.f
  repeat' first
      | (with_reducible exact api_Midi_29.mono _ _ _)
      | (with_reducible exact LeO.refl _)
      | (with_reducible exact LeO.none _)
      | (with_reducible refine LeO.ite ?_ ?_)
      | (with_reducible refine LeO.bind ?_ (fun _ => ?_))
      | exact api_Midi_29.mono _ _ _
      | exact LeO.none _
      | refine LeO.ite ?_ ?_
      | refine LeO.bind ?_ (fun _ => ?_)
set_option maxHeartbeats 8000000 in
set_option maxRecDepth 100000 in
theorem smf_Same.calls (k : Nat) (a0_0 : Int) (a0_1 : Int) (A0_2 : Option Addr) (c0_2 : Nat) (l0_2 : List (List (S39))) (a1_0 : Int) (a1_1 : Int) (A1_2 : Option Addr) (c1_2 : Nat) (l1_2 : List (List (S39))) (r : Bool) (w : World) (hr0_2 : Kd.C (Kd.slice 39 k39) w A0_2 l0_2.length l0_2) (hc0_2 : l0_2.length ≤ c0_2) (hr1_2 : Kd.C (Kd.slice 39 k39) w A1_2 l1_2.length l1_2) (hc1_2 : l1_2.length ≤ c1_2) (h : smf_Same.f k a0_0 a0_1 l0_2 a1_0 a1_1 l1_2 = some r) :
    Calls Tryd.prog 13 #[.agg #[.int .i64 a0_0, .int .i64 a0_1, .slice A0_2 l0_2.length c0_2], .agg #[.int .i64 a1_0, .int .i64 a1_1, .slice A1_2 l1_2.length c1_2]] w fun e w' => e = .returned (.bool r) ∧ Below w.heap.size w w' := by
  have hu32 := Tryd.underlying32
  have HR0_2 := Aside0.mk hr0_2
  have HC0_2 := Aside0.mk hc0_2
  clear hr0_2 hc0_2
  have HR1_2 := Aside0.mk hr1_2
  have HC1_2 := Aside0.mk hc1_2
  clear hr1_2 hc1_2
  have HB := Aside0.mk (Below.refl w.heap.size w)
  have H := h
  unfold smf_Same.f at H
  clear h
  by_cases c3 : a0_0 = a1_0
  rotate_left
  · rw [if_neg c3] at H
    have c3b0 : (a0_0 == a1_0) = false := beq_eq_false_iff_ne.mpr c3
    have c3b1 : (a0_0 != a1_0) = true := bne_iff_ne.mpr c3
    obtain rfl := Option.some.inj H
    go_enter Tryd.func13, Tryd.ntmps13
    go_wp2_with (first | ((with_reducible refine gate_dst (N := 2) rfl ?_); refine box_event ?hg (N := 2) ?hd (cs := #[.int .i64 a0_0, .int .i64 a0_1, .slice A0_2 l0_2.length c0_2]) (t := 32) ?hr ?_; (case hd => rfl); (case hg => rfl); (case hr => exact qq8); intro gb101 hg w16 hbox hb; have BK101 := Aside0.mk (hbox); have GW101 := Aside0.mk ((qq7 : w.heap.size ≤ gb101)); have GE101 := Aside0.mk ((qq7 : w.heap.size ≤ gb101)); replace HB := Aside0.mk (below_step (qB HB.out) hb); clear hb hbox hg) | ((with_reducible refine gate_dst (N := 3) rfl ?_); refine box_event ?hg (N := 3) ?hd (cs := #[.int .i64 a1_0, .int .i64 a1_1, .slice A1_2 l1_2.length c1_2]) (t := 32) ?hr ?_; (case hd => rfl); (case hg => rfl); (case hr => exact qq8); intro gb102 hg w17 hbox hb; have BK102 := Aside0.mk (hbox); have GW102 := Aside0.mk ((qqe : w.heap.size ≤ gb102)); have GE102 := Aside0.mk ((qqe : w.heap.size ≤ gb102)); replace HB := Aside0.mk (below_step (qS1 GE101 HB.out) hb); have NB101_102 := Aside0.mk ((qqc : gb101 ≠ gb102)); have NB102_101 := Aside0.mk ((qqd : gb102 ≠ gb101)); replace BK101 := Aside0.mk (blk_below (bq BK101.out) hb); clear hb hbox hg; have hnb18 := NB101_102.out; have hnc18 := NB102_101.out; obtain ⟨hcz19_0, hcz19_1, hcz19_2, hfz19_0, hfz19_1, hfz19_2⟩ := blk3 BK101.out; obtain ⟨hcz20_0, hcz20_1, hcz20_2, hfz20_0, hfz20_1, hfz20_2⟩ := blk3 BK102.out))
    go_ret
    exact ⟨qq4, qS2 GE101 GE102 HB.out⟩
  rw [if_pos c3] at H
  have c3b0 : (a0_0 == a1_0) = true := beq_iff_eq.mpr c3
  have c3b1 : (a0_0 != a1_0) = false := bne_eq_false_iff_eq.mpr c3
  clear c3
  by_cases c4 : a0_1 = a1_1
  rotate_left
  · rw [if_neg c4] at H
    have c4b0 : (a0_1 == a1_1) = false := beq_eq_false_iff_ne.mpr c4
    have c4b1 : (a0_1 != a1_1) = true := bne_iff_ne.mpr c4
    obtain rfl := Option.some.inj H
    go_enter Tryd.func13, Tryd.ntmps13
    go_wp2_with (first | ((with_reducible refine gate_dst (N := 2) rfl ?_); refine box_event ?hg (N := 2) ?hd (cs := #[.int .i64 a0_0, .int .i64 a0_1, .slice A0_2 l0_2.length c0_2]) (t := 32) ?hr ?_; (case hd => rfl); (case hg => rfl); (case hr => exact qq8); intro gb101 hg w11 hbox hb; have BK101 := Aside0.mk (hbox); have GW101 := Aside0.mk ((qq7 : w.heap.size ≤ gb101)); have GE101 := Aside0.mk ((qq7 : w.heap.size ≤ gb101)); replace HB := Aside0.mk (below_step (qB HB.out) hb); clear hb hbox hg) | ((with_reducible refine gate_dst (N := 3) rfl ?_); refine box_event ?hg (N := 3) ?hd (cs := #[.int .i64 a1_0, .int .i64 a1_1, .slice A1_2 l1_2.length c1_2]) (t := 32) ?hr ?_; (case hd => rfl); (case hg => rfl); (case hr => exact qq8); intro gb102 hg w12 hbox hb; have BK102 := Aside0.mk (hbox); have GW102 := Aside0.mk ((qqe : w.heap.size ≤ gb102)); have GE102 := Aside0.mk ((qqe : w.heap.size ≤ gb102)); replace HB := Aside0.mk (below_step (qS1 GE101 HB.out) hb); have NB101_102 := Aside0.mk ((qqc : gb101 ≠ gb102)); have NB102_101 := Aside0.mk ((qqd : gb102 ≠ gb101)); replace BK101 := Aside0.mk (blk_below (bq BK101.out) hb); clear hb hbox hg; have hnb13 := NB101_102.out; have hnc13 := NB102_101.out; obtain ⟨hcz14_0, hcz14_1, hcz14_2, hfz14_0, hfz14_1, hfz14_2⟩ := blk3 BK101.out; obtain ⟨hcz15_0, hcz15_1, hcz15_2, hfz15_0, hfz15_1, hfz15_2⟩ := blk3 BK102.out))
    go_ret
    exact ⟨qq4, qS2 GE101 GE102 HB.out⟩
  rw [if_pos c4] at H
  have c4b0 : (a0_1 == a1_1) = true := beq_iff_eq.mpr c4
  have c4b1 : (a0_1 != a1_1) = false := bne_eq_false_iff_eq.mpr c4
  clear c4
  replace H := Option.bind_eq_some_iff.mp H
  obtain ⟨t103, A50, H⟩ := H
  try dsimp -simprocs only at H
  have A5 := Aside0.mk A50
  clear A50
  obtain rfl := Option.some.inj H
  go_enter Tryd.func13, Tryd.ntmps13
  go_wp2_with (first | ((with_reducible refine gate_dst (N := 2) rfl ?_); refine box_event ?hg (N := 2) ?hd (cs := #[.int .i64 a0_0, .int .i64 a0_1, .slice A0_2 l0_2.length c0_2]) (t := 32) ?hr ?_; (case hd => rfl); (case hg => rfl); (case hr => exact qq8); intro gb101 hg w6 hbox hb; have BK101 := Aside0.mk (hbox); have GW101 := Aside0.mk ((qq7 : w.heap.size ≤ gb101)); have GE101 := Aside0.mk ((qq7 : w.heap.size ≤ gb101)); replace HB := Aside0.mk (below_step (qB HB.out) hb); clear hb hbox hg) | ((with_reducible refine gate_dst (N := 3) rfl ?_); refine box_event ?hg (N := 3) ?hd (cs := #[.int .i64 a1_0, .int .i64 a1_1, .slice A1_2 l1_2.length c1_2]) (t := 32) ?hr ?_; (case hd => rfl); (case hg => rfl); (case hr => exact qq8); intro gb102 hg w7 hbox hb; have BK102 := Aside0.mk (hbox); have GW102 := Aside0.mk ((qqe : w.heap.size ≤ gb102)); have GE102 := Aside0.mk ((qqe : w.heap.size ≤ gb102)); replace HB := Aside0.mk (below_step (qS1 GE101 HB.out) hb); have NB101_102 := Aside0.mk ((qqc : gb101 ≠ gb102)); have NB102_101 := Aside0.mk ((qqd : gb102 ≠ gb101)); replace BK101 := Aside0.mk (blk_below (bq BK101.out) hb); clear hb hbox hg; have hnb8 := NB101_102.out; have hnc8 := NB102_101.out; obtain ⟨hcz9_0, hcz9_1, hcz9_2, hfz9_0, hfz9_1, hfz9_2⟩ := blk3 BK101.out; obtain ⟨hcz10_0, hcz10_1, hcz10_2, hfz10_0, hfz10_1, hfz10_2⟩ := blk3 BK102.out) | (go_at_call 29; (with_reducible refine (api_Midi_29.calls k _ _ l0_2 _ _ l1_2 t103 _ ?side1 ?side2 ?side3 ?side4 A5.out).mono ?_); (case side1 => repeat (first | exact (Kd.C_below HR0_2.out HB.out) | (with_reducible refine Kd.C_alloc ?_ _) | (with_reducible refine Kd.C_drewN ?_ _) | (with_reducible refine Kd.C_drew ?_))); (case side2 => exact HC0_2.out); (case side3 => repeat (first | exact (Kd.C_below HR1_2.out HB.out) | (with_reducible refine Kd.C_alloc ?_ _) | (with_reducible refine Kd.C_drewN ?_ _) | (with_reducible refine Kd.C_drew ?_))); (case side4 => exact HC1_2.out); rintro e w' ⟨rfl, ⟨nd, rfl⟩⟩))
  go_ret
  exact ⟨qq4, qS2 GE101 GE102 HB.out⟩
end Go.Proofs.YtdmnknhlibaaoaaDoor.M
namespace Go.Proofs.YtdmnknhlibaaoaaDoor.M
open Go.RowKit Go.Proofs.YtdmnknhlibaaoaaDoorW.PrintWords Go.Proofs.YtdmnknhlibaaoaaDoorW.PrintLast Go.Proofs.YtdmnknhlibaaoaaDoorW.PrintMore
set_option linter.unusedVariables false
set_option linter.unusedSimpArgs false
def IsS63 (w0 W : World) (g : Nat) (f0 : ByteArray) (f1 : Int) : Prop := W.heap[g]? = some (.cells #[.string f0, .int .i64 f1] 63 (0, 0)) ∧ w0.heap.size ≤ g
theorem IsS63.grown {w0 W : World} {g : Nat} {f0 : ByteArray} {f1 : Int} {W1 : World} {row : Option Nat} (h : IsS63 w0 W g f0 f1) (hw : W.grownBy W1 row) (hne : some g ≠ row) : IsS63 w0 W1 g f0 f1 := by
  obtain ⟨hb, hg⟩ := h
  exact ⟨blk_grown hb hw hne, hg⟩
theorem IsS63.kept {w0 W : World} {g : Nat} {f0 : ByteArray} {f1 : Int} {W1 : World} {S : Nat → Prop} (h : IsS63 w0 W g f0 f1) (hk : Kept W W1 S) (hne : ¬ S g) : IsS63 w0 W1 g f0 f1 := by
  obtain ⟨hb, hg⟩ := h
  exact ⟨blk_kept hb hk hne, hg⟩
theorem IsS63.below {w0 W : World} {g : Nat} {f0 : ByteArray} {f1 : Int} {W1 : World} (h : IsS63 w0 W g f0 f1) (hw : Below W.heap.size W W1) : IsS63 w0 W1 g f0 f1 := h.grown (grown_of_below hw none) (by simp)
theorem IsS63.alloc {w0 W : World} {g : Nat} {f0 : ByteArray} {f1 : Int} (h : IsS63 w0 W g f0 f1) (o : Obj) : IsS63 w0 (W.alloc o) g f0 f1 := h.below (below_alloc (Below.refl _ _) o)
theorem IsS63.drewN {w0 W : World} {g : Nat} {f0 : ByteArray} {f1 : Int} (h : IsS63 w0 W g f0 f1) (m : Nat) : IsS63 w0 (W.drewN m) g f0 f1 := h
theorem IsS63.drew {w0 W : World} {g : Nat} {f0 : ByteArray} {f1 : Int} (h : IsS63 w0 W g f0 f1) : IsS63 w0 W.drew g f0 f1 := h
theorem IsS63.at_ {w0 W : World} {g : Nat} {f0 : ByteArray} {f1 : Int} {w' : World} {m : Nat} (hq : W.drewN m = w') (h : IsS63 w0 W g f0 f1) : IsS63 w0 w' g f0 f1 := by subst hq; exact IsS63.drewN h m
theorem IsS63.apart {w0 W : World} {g : Nat} {f0 : ByteArray} {f1 : Int} {α : Type} {d : Kd α} {e : Nat} {base : Nat} {ok : Nat → Prop} {v : Value} {xs : List α} (h : IsS63 w0 W g f0 f1) (ho : d.R e W base ok v xs) (ht : ∀ q, q ∈ e :: d.E → q ≠ 63) : d.R e W base (fun k => ok k ∧ k ≠ g) v xs := by
  obtain ⟨hb, hg⟩ := h
  exact Kd.R_types ho hb ht
theorem IsS63.own_ne {w0 W : World} {g : Nat} {f0 : ByteArray} {f1 : Int} {α : Type} {d : Kd α} {e : Nat} {base : Nat} {ok : Nat → Prop} {v : Value} {xs : List α} (h : IsS63 w0 W g f0 f1) (ho : d.R e W base ok v xs) (ht : e ≠ 63) : some g ≠ v.ownBlock := by
  obtain ⟨hb, hg⟩ := h
  exact Kd.R_ne ho hb ht
theorem IsS63.lt {w0 W : World} {g : Nat} {f0 : ByteArray} {f1 : Int} (h : IsS63 w0 W g f0 f1) : g < W.heap.size := by
  obtain ⟨hb, hg⟩ := h
  exact blk_lt hb
theorem IsS63.ge {w0 W : World} {g : Nat} {f0 : ByteArray} {f1 : Int} (h : IsS63 w0 W g f0 f1) : w0.heap.size ≤ g := by
  obtain ⟨hb, hg⟩ := h
  exact hg
theorem IsS63.ne_blk {w0 W : World} {g : Nat} {f0 : ByteArray} {f1 : Int} {a : Nat} {cs : Array Value} {t : TypeId} {fr : Nat × Nat} (h : IsS63 w0 W g f0 f1) (hb2 : W.heap[a]? = some (.cells cs t fr)) (ht : t ≠ 63) : g ≠ a := by
  obtain ⟨hb, hg⟩ := h
  rintro rfl
  rw [hb] at hb2
  injection hb2 with hb2
  injection hb2 with _ ht2
  exact ht ht2.symm
theorem IsS63.far {w0 W : World} {g : Nat} {f0 : ByteArray} {f1 : Int} {p : Addr} (h : IsS63 w0 W g f0 f1) (hne : g ≠ p.block) (u : Value) : IsS63 w0 (W.setCell p u) g f0 f1 := by
  obtain ⟨hb, hg⟩ := h
  exact ⟨blk_far hb hne u, hg⟩
theorem cellS63_0 {W : World} {g : Nat} {f0 : ByteArray} {f1 : Int} (h : W.heap[g]? = some (.cells #[.string f0, .int .i64 f1] 63 (0, 0))) : W.cell? ⟨g, 0, none⟩ = some (.string f0) := (blk_cell h 0).trans rfl
theorem IsS63.set_0 {w0 W : World} {g : Nat} {f0 : ByteArray} {f1 : Int} (h : IsS63 w0 W g f0 f1) (x : ByteArray) : IsS63 w0 (W.setCell ⟨g, 0, none⟩ (.string x)) g x f1 := by
  obtain ⟨hb, hg⟩ := h
  exact ⟨by simpa using blk_set hb 0 (.string x), hg⟩
theorem cellS63_1 {W : World} {g : Nat} {f0 : ByteArray} {f1 : Int} (h : W.heap[g]? = some (.cells #[.string f0, .int .i64 f1] 63 (0, 0))) : W.cell? ⟨g, 1, none⟩ = some (.int .i64 f1) := (blk_cell h 1).trans rfl
theorem IsS63.set_1 {w0 W : World} {g : Nat} {f0 : ByteArray} {f1 : Int} (h : IsS63 w0 W g f0 f1) (x : Int) : IsS63 w0 (W.setCell ⟨g, 1, none⟩ (.int .i64 x)) g f0 x := by
  obtain ⟨hb, hg⟩ := h
  exact ⟨by simpa using blk_set hb 1 (.int .i64 x), hg⟩
theorem IsS63.new (w0 W : World) (f0 : ByteArray) (f1 : Int) (hB : Below w0.heap.size w0 W) : IsS63 w0 (W.alloc (.cells #[.string f0, .int .i64 f1] 63)) W.heap.size f0 f1 := ⟨by simpa using heap_alloc_new W _, hB.size⟩
end Go.Proofs.YtdmnknhlibaaoaaDoor.M
namespace Go.Proofs.YtdmnknhlibaaoaaDoor.M
open Go.RowKit Go.Proofs.YtdmnknhlibaaoaaDoorW.PrintWords Go.Proofs.YtdmnknhlibaaoaaDoorW.PrintLast Go.Proofs.YtdmnknhlibaaoaaDoorW.PrintMore
set_option linter.unusedVariables false
set_option linter.unusedSimpArgs false
def gone (at_ e : Int) : Ending := .panicked [{ v := .iface 60 (.agg #[.int .i64 at_, .int .i64 e]), recovered := false }]
theorem fail_calls (at_ e : Int) (w : World) : Calls Tryd.prog 22 #[.int .i64 at_, .int .i64 e] w fun x w' => x = gone at_ e ∧ w' = w := by
  go_enter Tryd.func22, Tryd.ntmps22
  go_wp2
  exact ⟨rfl, rfl, rfl⟩
set_option maxHeartbeats 8000000 in
set_option maxRecDepth 100000 in
theorem take_calls (g : Nat) (s : ByteArray) (p n : Int) (w0 w : World) (hI : IsS63 w0 w g s p) (hB : Below w0.heap.size w0 w) (hp : 0 ≤ p ∧ p ≤ s.size) (hs : s.size ≤ 100000) (hn : 0 ≤ n ∧ n ≤ 4294967296) :
    Calls Tryd.prog 40 #[.pointer (some ⟨g, 0, none⟩), .int .i64 n] w fun e w' => Below w0.heap.size w0 w' ∧ KeepBut w w' g none ∧
      ((n > s.size - p ∧ e = gone s.size 152) ∨ (n ≤ s.size - p ∧ e = .returned (.string (s.extract p.toNat (p + n).toNat)) ∧ IsS63 w0 w' g s (p + n))) := by
  have c0 := cellS63_0 hI.1
  have c1 := cellS63_1 hI.1
  have f1 : w.frozen? ⟨g, 1, none⟩ = false := blk_frozen hI.1 1
  have hw : wrap64 ((s.size : Int) - p) = (s.size : Int) - p := by unfold wrap64; omega
  by_cases h : n > (s.size : Int) - p
  · have hd : decide (n > (s.size : Int) - p) = true := decide_eq_true h
    go_enter Tryd.func40, Tryd.ntmps40
    go_wp2
    go_quiet (fail)
    go_wp2_with (go_at_call 22; refine (fail_calls _ _ _).mono ?_; rintro e w' ⟨he, rfl⟩; simp only [gone] at he; subst he)
    exact ⟨rfl, pw_below_drewN hB _, KeepBut.of_below (pw_below_drewN (Below.refl _ _) _) _ _, .inl ⟨h, rfl⟩⟩
  · have hd : decide (n > (s.size : Int) - p) = false := decide_eq_false h
    have hw2 : wrap64 (p + n) = p + n := by unfold wrap64; omega
    have hw3 : wrap64 (p + n - n) = p := by unfold wrap64; omega
    have d1 : decide (0 ≤ p) = true := decide_eq_true (by omega)
    have d2 : decide (p ≤ p + n) = true := decide_eq_true (by omega)
    have d3 : decide (p + n ≤ (s.size : Int)) = true := decide_eq_true (by omega)
    go_enter Tryd.func40, Tryd.ntmps40
    go_wp2
    go_quiet (fail)
    go_wp2
    go_quiet (fail)
    go_wp2
    go_ret
    exact ⟨pw_below_drewN (below_set (pw_below_drewN hB _) hI.2) _, keep_drewN ((KeepBut.of_below (pw_below_drewN (Below.refl _ _) _) _ _).set_ _ _) _, .inr ⟨by omega, rfl, IsS63.drewN ((IsS63.drewN hI _).set_1 _) _⟩⟩
end Go.Proofs.YtdmnknhlibaaoaaDoor.M
namespace Go.Proofs.YtdmnknhlibaaoaaDoor.M
open Go.RowKit Go.Proofs.YtdmnknhlibaaoaaDoorW.PrintWords Go.Proofs.YtdmnknhlibaaoaaDoorW.PrintLast Go.Proofs.YtdmnknhlibaaoaaDoorW.PrintMore
set_option linter.unusedVariables false
set_option linter.unusedSimpArgs false
def ByteEnd (s : ByteArray) (p : Int) (q : Bool) (g : Nat) (w0 w : World) (e : Ending) (w' : World) : Prop := Below w0.heap.size w0 w' ∧ KeepBut w w' g none ∧
  ((¬ p < s.size ∧ e = gone s.size 152) ∨ (p < s.size ∧ q = false ∧ e = gone p 160) ∨ (p < s.size ∧ q = true ∧ e = .returned (.int .i64 (bt s p)) ∧ IsS63 w0 w' g s (p + 1)))
set_option maxHeartbeats 8000000 in
set_option maxRecDepth 100000 in
theorem byte_49 (caps : Array Value) (q : Bool) (g : Nat) (s : ByteArray) (p : Int) (w0 w : World) (hI : IsS63 w0 w g s p) (hB : Below w0.heap.size w0 w) (hp : 0 ≤ p ∧ p ≤ s.size) (hs : s.size ≤ 100000)
    (hK : p < s.size → ∀ w1 : World, w1.heap = w.heap → Calls Tryd.prog 34 (#[.int .u8 (bt s p)] ++ caps) w1 fun e w' => e = .returned (.bool q) ∧ w' = w1) :
    Calls Tryd.prog 33 #[.pointer (some ⟨g, 0, none⟩), .func (.func 34) #[] caps] w (ByteEnd s p q g w0 w) := by
  have c0 := cellS63_0 hI.1
  have c1 := cellS63_1 hI.1
  have f1 : w.frozen? ⟨g, 1, none⟩ = false := blk_frozen hI.1 1
  by_cases h : p < (s.size : Int)
  · have hd : decide (p ≥ (s.size : Int)) = false := decide_eq_false (by omega)
    have hw : wrap64 (p + 1) = p + 1 := by unfold wrap64; omega
    have p1 : 0 ≤ p := hp.1
    have q1 : p < (s.size : Int) := h
    have hx1 := bt_at s p
    have hK1 := fun n => hK h (w.drewN n) rfl
    have hb0 := bt_range s p
    have hbw : wrap64 (bt s p) = bt s p := by unfold wrap64; omega
    replace p1 := eq_true p1
    replace q1 := eq_true q1
    have HI := Aside0.mk hI
    have HB := Aside0.mk hB
    clear hI hB
    go_enter Tryd.func33, Tryd.ntmps33
    go_wp2
    go_quiet (fail)
    go_wp2
    go_quiet (fail)
    cases q with
    | true =>
      go_wp2_with (go_at_call 34; refine (hK1 _).mono ?_; rintro e w' ⟨rfl, rfl⟩)
      go_ret
      unfold ByteEnd
      exact ⟨below_set (pw_below_drewN HB.out _) HI.out.2, KeepBut.set_ (keep_drewN (KeepBut.refl _ _ _) _) _ _, .inr (.inr ⟨h, rfl, rfl, (IsS63.drewN HI.out _).set_1 _⟩)⟩
    | false =>
      go_wp2_with (first | (go_at_call 34; refine (hK1 _).mono ?_; rintro e w' ⟨rfl, rfl⟩) | (go_at_call 22; refine (fail_calls _ _ _).mono ?_; rintro e w' ⟨he, rfl⟩; simp only [gone] at he; subst he))
      unfold ByteEnd
      exact ⟨rfl, pw_below_drewN HB.out _, keep_drewN (KeepBut.refl _ _ _) _, .inr (.inl ⟨h, rfl, rfl⟩)⟩
  · have hd : decide (p ≥ (s.size : Int)) = true := decide_eq_true (by omega)
    go_enter Tryd.func33, Tryd.ntmps33
    go_wp2
    go_quiet (fail)
    go_wp2_with (go_at_call 22; refine (fail_calls _ _ _).mono ?_; rintro e w' ⟨he, rfl⟩; simp only [gone] at he; subst he)
    unfold ByteEnd
    exact ⟨rfl, pw_below_drewN hB _, keep_drewN (KeepBut.refl _ _ _) _, .inl ⟨by omega, rfl⟩⟩
set_option maxHeartbeats 8000000 in
set_option maxRecDepth 100000 in
theorem byte_50 (caps : Array Value) (q : Bool) (g : Nat) (s : ByteArray) (p : Int) (w0 w : World) (hI : IsS63 w0 w g s p) (hB : Below w0.heap.size w0 w) (hp : 0 ≤ p ∧ p ≤ s.size) (hs : s.size ≤ 100000)
    (hK : p < s.size → ∀ w1 : World, w1.heap = w.heap → Calls Tryd.prog 35 (#[.int .u8 (bt s p)] ++ caps) w1 fun e w' => e = .returned (.bool q) ∧ w' = w1) :
    Calls Tryd.prog 33 #[.pointer (some ⟨g, 0, none⟩), .func (.func 35) #[] caps] w (ByteEnd s p q g w0 w) := by
  have c0 := cellS63_0 hI.1
  have c1 := cellS63_1 hI.1
  have f1 : w.frozen? ⟨g, 1, none⟩ = false := blk_frozen hI.1 1
  by_cases h : p < (s.size : Int)
  · have hd : decide (p ≥ (s.size : Int)) = false := decide_eq_false (by omega)
    have hw : wrap64 (p + 1) = p + 1 := by unfold wrap64; omega
    have p1 : 0 ≤ p := hp.1
    have q1 : p < (s.size : Int) := h
    have hx1 := bt_at s p
    have hK1 := fun n => hK h (w.drewN n) rfl
    have hb0 := bt_range s p
    have hbw : wrap64 (bt s p) = bt s p := by unfold wrap64; omega
    replace p1 := eq_true p1
    replace q1 := eq_true q1
    have HI := Aside0.mk hI
    have HB := Aside0.mk hB
    clear hI hB
    go_enter Tryd.func33, Tryd.ntmps33
    go_wp2
    go_quiet (fail)
    go_wp2
    go_quiet (fail)
    cases q with
    | true =>
      go_wp2_with (go_at_call 35; refine (hK1 _).mono ?_; rintro e w' ⟨rfl, rfl⟩)
      go_ret
      unfold ByteEnd
      exact ⟨below_set (pw_below_drewN HB.out _) HI.out.2, KeepBut.set_ (keep_drewN (KeepBut.refl _ _ _) _) _ _, .inr (.inr ⟨h, rfl, rfl, (IsS63.drewN HI.out _).set_1 _⟩)⟩
    | false =>
      go_wp2_with (first | (go_at_call 35; refine (hK1 _).mono ?_; rintro e w' ⟨rfl, rfl⟩) | (go_at_call 22; refine (fail_calls _ _ _).mono ?_; rintro e w' ⟨he, rfl⟩; simp only [gone] at he; subst he))
      unfold ByteEnd
      exact ⟨rfl, pw_below_drewN HB.out _, keep_drewN (KeepBut.refl _ _ _) _, .inr (.inl ⟨h, rfl, rfl⟩)⟩
  · have hd : decide (p ≥ (s.size : Int)) = true := decide_eq_true (by omega)
    go_enter Tryd.func33, Tryd.ntmps33
    go_wp2
    go_quiet (fail)
    go_wp2_with (go_at_call 22; refine (fail_calls _ _ _).mono ?_; rintro e w' ⟨he, rfl⟩; simp only [gone] at he; subst he)
    unfold ByteEnd
    exact ⟨rfl, pw_below_drewN hB _, keep_drewN (KeepBut.refl _ _ _) _, .inl ⟨by omega, rfl⟩⟩
set_option maxHeartbeats 8000000 in
set_option maxRecDepth 100000 in
theorem byte_51 (caps : Array Value) (q : Bool) (g : Nat) (s : ByteArray) (p : Int) (w0 w : World) (hI : IsS63 w0 w g s p) (hB : Below w0.heap.size w0 w) (hp : 0 ≤ p ∧ p ≤ s.size) (hs : s.size ≤ 100000)
    (hK : p < s.size → ∀ w1 : World, w1.heap = w.heap → Calls Tryd.prog 36 (#[.int .u8 (bt s p)] ++ caps) w1 fun e w' => e = .returned (.bool q) ∧ w' = w1) :
    Calls Tryd.prog 33 #[.pointer (some ⟨g, 0, none⟩), .func (.func 36) #[] caps] w (ByteEnd s p q g w0 w) := by
  have c0 := cellS63_0 hI.1
  have c1 := cellS63_1 hI.1
  have f1 : w.frozen? ⟨g, 1, none⟩ = false := blk_frozen hI.1 1
  by_cases h : p < (s.size : Int)
  · have hd : decide (p ≥ (s.size : Int)) = false := decide_eq_false (by omega)
    have hw : wrap64 (p + 1) = p + 1 := by unfold wrap64; omega
    have p1 : 0 ≤ p := hp.1
    have q1 : p < (s.size : Int) := h
    have hx1 := bt_at s p
    have hK1 := fun n => hK h (w.drewN n) rfl
    have hb0 := bt_range s p
    have hbw : wrap64 (bt s p) = bt s p := by unfold wrap64; omega
    replace p1 := eq_true p1
    replace q1 := eq_true q1
    have HI := Aside0.mk hI
    have HB := Aside0.mk hB
    clear hI hB
    go_enter Tryd.func33, Tryd.ntmps33
    go_wp2
    go_quiet (fail)
    go_wp2
    go_quiet (fail)
    cases q with
    | true =>
      go_wp2_with (go_at_call 36; refine (hK1 _).mono ?_; rintro e w' ⟨rfl, rfl⟩)
      go_ret
      unfold ByteEnd
      exact ⟨below_set (pw_below_drewN HB.out _) HI.out.2, KeepBut.set_ (keep_drewN (KeepBut.refl _ _ _) _) _ _, .inr (.inr ⟨h, rfl, rfl, (IsS63.drewN HI.out _).set_1 _⟩)⟩
    | false =>
      go_wp2_with (first | (go_at_call 36; refine (hK1 _).mono ?_; rintro e w' ⟨rfl, rfl⟩) | (go_at_call 22; refine (fail_calls _ _ _).mono ?_; rintro e w' ⟨he, rfl⟩; simp only [gone] at he; subst he))
      unfold ByteEnd
      exact ⟨rfl, pw_below_drewN HB.out _, keep_drewN (KeepBut.refl _ _ _) _, .inr (.inl ⟨h, rfl, rfl⟩)⟩
  · have hd : decide (p ≥ (s.size : Int)) = true := decide_eq_true (by omega)
    go_enter Tryd.func33, Tryd.ntmps33
    go_wp2
    go_quiet (fail)
    go_wp2_with (go_at_call 22; refine (fail_calls _ _ _).mono ?_; rintro e w' ⟨he, rfl⟩; simp only [gone] at he; subst he)
    unfold ByteEnd
    exact ⟨rfl, pw_below_drewN hB _, keep_drewN (KeepBut.refl _ _ _) _, .inl ⟨by omega, rfl⟩⟩
set_option maxHeartbeats 8000000 in
set_option maxRecDepth 100000 in
theorem byte_52 (caps : Array Value) (q : Bool) (g : Nat) (s : ByteArray) (p : Int) (w0 w : World) (hI : IsS63 w0 w g s p) (hB : Below w0.heap.size w0 w) (hp : 0 ≤ p ∧ p ≤ s.size) (hs : s.size ≤ 100000)
    (hK : p < s.size → ∀ w1 : World, w1.heap = w.heap → Calls Tryd.prog 37 (#[.int .u8 (bt s p)] ++ caps) w1 fun e w' => e = .returned (.bool q) ∧ w' = w1) :
    Calls Tryd.prog 33 #[.pointer (some ⟨g, 0, none⟩), .func (.func 37) #[] caps] w (ByteEnd s p q g w0 w) := by
  have c0 := cellS63_0 hI.1
  have c1 := cellS63_1 hI.1
  have f1 : w.frozen? ⟨g, 1, none⟩ = false := blk_frozen hI.1 1
  by_cases h : p < (s.size : Int)
  · have hd : decide (p ≥ (s.size : Int)) = false := decide_eq_false (by omega)
    have hw : wrap64 (p + 1) = p + 1 := by unfold wrap64; omega
    have p1 : 0 ≤ p := hp.1
    have q1 : p < (s.size : Int) := h
    have hx1 := bt_at s p
    have hK1 := fun n => hK h (w.drewN n) rfl
    have hb0 := bt_range s p
    have hbw : wrap64 (bt s p) = bt s p := by unfold wrap64; omega
    replace p1 := eq_true p1
    replace q1 := eq_true q1
    have HI := Aside0.mk hI
    have HB := Aside0.mk hB
    clear hI hB
    go_enter Tryd.func33, Tryd.ntmps33
    go_wp2
    go_quiet (fail)
    go_wp2
    go_quiet (fail)
    cases q with
    | true =>
      go_wp2_with (go_at_call 37; refine (hK1 _).mono ?_; rintro e w' ⟨rfl, rfl⟩)
      go_ret
      unfold ByteEnd
      exact ⟨below_set (pw_below_drewN HB.out _) HI.out.2, KeepBut.set_ (keep_drewN (KeepBut.refl _ _ _) _) _ _, .inr (.inr ⟨h, rfl, rfl, (IsS63.drewN HI.out _).set_1 _⟩)⟩
    | false =>
      go_wp2_with (first | (go_at_call 37; refine (hK1 _).mono ?_; rintro e w' ⟨rfl, rfl⟩) | (go_at_call 22; refine (fail_calls _ _ _).mono ?_; rintro e w' ⟨he, rfl⟩; simp only [gone] at he; subst he))
      unfold ByteEnd
      exact ⟨rfl, pw_below_drewN HB.out _, keep_drewN (KeepBut.refl _ _ _) _, .inr (.inl ⟨h, rfl, rfl⟩)⟩
  · have hd : decide (p ≥ (s.size : Int)) = true := decide_eq_true (by omega)
    go_enter Tryd.func33, Tryd.ntmps33
    go_wp2
    go_quiet (fail)
    go_wp2_with (go_at_call 22; refine (fail_calls _ _ _).mono ?_; rintro e w' ⟨he, rfl⟩; simp only [gone] at he; subst he)
    unfold ByteEnd
    exact ⟨rfl, pw_below_drewN hB _, keep_drewN (KeepBut.refl _ _ _) _, .inl ⟨by omega, rfl⟩⟩
set_option maxHeartbeats 8000000 in
set_option maxRecDepth 100000 in
theorem byte_53 (caps : Array Value) (q : Bool) (g : Nat) (s : ByteArray) (p : Int) (w0 w : World) (hI : IsS63 w0 w g s p) (hB : Below w0.heap.size w0 w) (hp : 0 ≤ p ∧ p ≤ s.size) (hs : s.size ≤ 100000)
    (hK : p < s.size → ∀ w1 : World, w1.heap = w.heap → Calls Tryd.prog 38 (#[.int .u8 (bt s p)] ++ caps) w1 fun e w' => e = .returned (.bool q) ∧ w' = w1) :
    Calls Tryd.prog 33 #[.pointer (some ⟨g, 0, none⟩), .func (.func 38) #[] caps] w (ByteEnd s p q g w0 w) := by
  have c0 := cellS63_0 hI.1
  have c1 := cellS63_1 hI.1
  have f1 : w.frozen? ⟨g, 1, none⟩ = false := blk_frozen hI.1 1
  by_cases h : p < (s.size : Int)
  · have hd : decide (p ≥ (s.size : Int)) = false := decide_eq_false (by omega)
    have hw : wrap64 (p + 1) = p + 1 := by unfold wrap64; omega
    have p1 : 0 ≤ p := hp.1
    have q1 : p < (s.size : Int) := h
    have hx1 := bt_at s p
    have hK1 := fun n => hK h (w.drewN n) rfl
    have hb0 := bt_range s p
    have hbw : wrap64 (bt s p) = bt s p := by unfold wrap64; omega
    replace p1 := eq_true p1
    replace q1 := eq_true q1
    have HI := Aside0.mk hI
    have HB := Aside0.mk hB
    clear hI hB
    go_enter Tryd.func33, Tryd.ntmps33
    go_wp2
    go_quiet (fail)
    go_wp2
    go_quiet (fail)
    cases q with
    | true =>
      go_wp2_with (go_at_call 38; refine (hK1 _).mono ?_; rintro e w' ⟨rfl, rfl⟩)
      go_ret
      unfold ByteEnd
      exact ⟨below_set (pw_below_drewN HB.out _) HI.out.2, KeepBut.set_ (keep_drewN (KeepBut.refl _ _ _) _) _ _, .inr (.inr ⟨h, rfl, rfl, (IsS63.drewN HI.out _).set_1 _⟩)⟩
    | false =>
      go_wp2_with (first | (go_at_call 38; refine (hK1 _).mono ?_; rintro e w' ⟨rfl, rfl⟩) | (go_at_call 22; refine (fail_calls _ _ _).mono ?_; rintro e w' ⟨he, rfl⟩; simp only [gone] at he; subst he))
      unfold ByteEnd
      exact ⟨rfl, pw_below_drewN HB.out _, keep_drewN (KeepBut.refl _ _ _) _, .inr (.inl ⟨h, rfl, rfl⟩)⟩
  · have hd : decide (p ≥ (s.size : Int)) = true := decide_eq_true (by omega)
    go_enter Tryd.func33, Tryd.ntmps33
    go_wp2
    go_quiet (fail)
    go_wp2_with (go_at_call 22; refine (fail_calls _ _ _).mono ?_; rintro e w' ⟨he, rfl⟩; simp only [gone] at he; subst he)
    unfold ByteEnd
    exact ⟨rfl, pw_below_drewN hB _, keep_drewN (KeepBut.refl _ _ _) _, .inl ⟨by omega, rfl⟩⟩
set_option maxHeartbeats 8000000 in
set_option maxRecDepth 100000 in
theorem byte_54 (caps : Array Value) (q : Bool) (g : Nat) (s : ByteArray) (p : Int) (w0 w : World) (hI : IsS63 w0 w g s p) (hB : Below w0.heap.size w0 w) (hp : 0 ≤ p ∧ p ≤ s.size) (hs : s.size ≤ 100000)
    (hK : p < s.size → ∀ w1 : World, w1.heap = w.heap → Calls Tryd.prog 39 (#[.int .u8 (bt s p)] ++ caps) w1 fun e w' => e = .returned (.bool q) ∧ w' = w1) :
    Calls Tryd.prog 33 #[.pointer (some ⟨g, 0, none⟩), .func (.func 39) #[] caps] w (ByteEnd s p q g w0 w) := by
  have c0 := cellS63_0 hI.1
  have c1 := cellS63_1 hI.1
  have f1 : w.frozen? ⟨g, 1, none⟩ = false := blk_frozen hI.1 1
  by_cases h : p < (s.size : Int)
  · have hd : decide (p ≥ (s.size : Int)) = false := decide_eq_false (by omega)
    have hw : wrap64 (p + 1) = p + 1 := by unfold wrap64; omega
    have p1 : 0 ≤ p := hp.1
    have q1 : p < (s.size : Int) := h
    have hx1 := bt_at s p
    have hK1 := fun n => hK h (w.drewN n) rfl
    have hb0 := bt_range s p
    have hbw : wrap64 (bt s p) = bt s p := by unfold wrap64; omega
    replace p1 := eq_true p1
    replace q1 := eq_true q1
    have HI := Aside0.mk hI
    have HB := Aside0.mk hB
    clear hI hB
    go_enter Tryd.func33, Tryd.ntmps33
    go_wp2
    go_quiet (fail)
    go_wp2
    go_quiet (fail)
    cases q with
    | true =>
      go_wp2_with (go_at_call 39; refine (hK1 _).mono ?_; rintro e w' ⟨rfl, rfl⟩)
      go_ret
      unfold ByteEnd
      exact ⟨below_set (pw_below_drewN HB.out _) HI.out.2, KeepBut.set_ (keep_drewN (KeepBut.refl _ _ _) _) _ _, .inr (.inr ⟨h, rfl, rfl, (IsS63.drewN HI.out _).set_1 _⟩)⟩
    | false =>
      go_wp2_with (first | (go_at_call 39; refine (hK1 _).mono ?_; rintro e w' ⟨rfl, rfl⟩) | (go_at_call 22; refine (fail_calls _ _ _).mono ?_; rintro e w' ⟨he, rfl⟩; simp only [gone] at he; subst he))
      unfold ByteEnd
      exact ⟨rfl, pw_below_drewN HB.out _, keep_drewN (KeepBut.refl _ _ _) _, .inr (.inl ⟨h, rfl, rfl⟩)⟩
  · have hd : decide (p ≥ (s.size : Int)) = true := decide_eq_true (by omega)
    go_enter Tryd.func33, Tryd.ntmps33
    go_wp2
    go_quiet (fail)
    go_wp2_with (go_at_call 22; refine (fail_calls _ _ _).mono ?_; rintro e w' ⟨he, rfl⟩; simp only [gone] at he; subst he)
    unfold ByteEnd
    exact ⟨rfl, pw_below_drewN hB _, keep_drewN (KeepBut.refl _ _ _) _, .inl ⟨by omega, rfl⟩⟩
end Go.Proofs.YtdmnknhlibaaoaaDoor.M
namespace Go.Proofs.YtdmnknhlibaaoaaDoor.M
open Go.RowKit Go.Proofs.YtdmnknhlibaaoaaDoorW.PrintWords Go.Proofs.YtdmnknhlibaaoaaDoorW.PrintLast Go.Proofs.YtdmnknhlibaaoaaDoorW.PrintMore
set_option linter.unusedVariables false
set_option linter.unusedSimpArgs false
theorem c49 (b c : Int) (gc : Nat) (w : World) (h : w.cell? ⟨gc, 0, none⟩ = some (.int .u8 c)) : Calls Tryd.prog 34 (#[.int .u8 b] ++ #[.pointer (some ⟨gc, 0, none⟩)]) w fun e w' => e = .returned (.bool (b == c)) ∧ w' = w := by
  show Calls Tryd.prog 34 #[.int .u8 b, .pointer (some ⟨gc, 0, none⟩)] w _
  go_enter Tryd.func34, Tryd.ntmps34
  go_wp2
  go_ret
  exact ⟨rfl, rfl⟩
theorem c50 (b : Int) (w : World) : Calls Tryd.prog 35 (#[.int .u8 b] ++ #[]) w fun e w' => e = .returned (.bool (b == 0)) ∧ w' = w := by
  show Calls Tryd.prog 35 #[.int .u8 b] w _
  go_enter Tryd.func35, Tryd.ntmps35
  go_wp2
  go_ret
  exact ⟨rfl, rfl⟩
theorem c51 (b : Int) (w : World) : Calls Tryd.prog 36 (#[.int .u8 b] ++ #[]) w fun e w' => e = .returned (.bool (decide (b ≤ 1))) ∧ w' = w := by
  show Calls Tryd.prog 36 #[.int .u8 b] w _
  go_enter Tryd.func36, Tryd.ntmps36
  go_wp2
  go_ret
  exact ⟨rfl, rfl⟩
theorem c53 (b : Int) (w : World) : Calls Tryd.prog 38 (#[.int .u8 b] ++ #[]) w fun e w' => e = .returned (.bool (decide (b < 128))) ∧ w' = w := by
  show Calls Tryd.prog 38 #[.int .u8 b] w _
  go_enter Tryd.func38, Tryd.ntmps38
  go_wp2
  go_ret
  exact ⟨rfl, rfl⟩
def okN (b fm : Int) : Bool := decide (b = 1) || (decide (fm = 1) && decide (b > 0) && decide (b ≤ 16))
theorem c52 (b fm : Int) (gf fb : Nat) (w : World) (h : w.cell? ⟨gf, 0, none⟩ = some (.pointer (some ⟨fb, 0, none⟩))) (h2 : w.cell? ⟨fb, 0, none⟩ = some (.int .i64 fm)) :
    Calls Tryd.prog 37 (#[.int .u8 b] ++ #[.pointer (some ⟨gf, 0, none⟩)]) w fun e w' => e = .returned (.bool (okN b fm)) ∧ w' = w := by
  show Calls Tryd.prog 37 #[.int .u8 b, .pointer (some ⟨gf, 0, none⟩)] w _
  unfold okN
  by_cases k1 : b = 1
  · have e1 : (b == 1) = true := beq_iff_eq.mpr k1
    rw [decide_eq_true k1, Bool.true_or]
    go_enter Tryd.func37, Tryd.ntmps37
    go_wp2
    go_ret
    exact ⟨rfl, rfl⟩
  · have e1 : (b == 1) = false := beq_eq_false_iff_ne.mpr k1
    rw [decide_eq_false k1, Bool.false_or]
    by_cases k2 : fm = 1
    · have e2 : (fm == 1) = true := beq_iff_eq.mpr k2
      rw [decide_eq_true k2, Bool.true_and]
      by_cases k3 : b > 0
      · have e3 : decide (b > 0) = true := decide_eq_true k3
        rw [e3, Bool.true_and]
        go_enter Tryd.func37, Tryd.ntmps37
        go_wp2
        go_ret
        exact ⟨rfl, rfl⟩
      · have e3 : decide (b > 0) = false := decide_eq_false k3
        rw [e3, Bool.false_and]
        go_enter Tryd.func37, Tryd.ntmps37
        go_wp2
        go_ret
        exact ⟨rfl, rfl⟩
    · have e2 : (fm == 1) = false := beq_eq_false_iff_ne.mpr k2
      rw [decide_eq_false k2, Bool.false_and, Bool.false_and]
      go_enter Tryd.func37, Tryd.ntmps37
      go_wp2
      go_ret
      exact ⟨rfl, rfl⟩
theorem c54 (b hi : Int) (gh : Nat) (w : World) (h : w.cell? ⟨gh, 0, none⟩ = some (.int .i64 hi)) :
    Calls Tryd.prog 39 (#[.int .u8 b] ++ #[.pointer (some ⟨gh, 0, none⟩)]) w fun e w' => e = .returned (.bool (decide (b > 0) || decide (hi > 0))) ∧ w' = w := by
  show Calls Tryd.prog 39 #[.int .u8 b, .pointer (some ⟨gh, 0, none⟩)] w _
  by_cases k1 : b > 0
  · have e1 : decide (b > 0) = true := decide_eq_true k1
    rw [e1, Bool.true_or]
    go_enter Tryd.func39, Tryd.ntmps39
    go_wp2
    go_ret
    exact ⟨rfl, rfl⟩
  · have e1 : decide (b > 0) = false := decide_eq_false k1
    rw [e1, Bool.false_or]
    go_enter Tryd.func39, Tryd.ntmps39
    go_wp2
    go_ret
    exact ⟨rfl, rfl⟩
def okAt (s : ByteArray) (i : Nat) : Bool := match i with
  | 0 => bt s 0 == 77
  | 1 => bt s 1 == 84
  | 2 => bt s 2 == 104
  | 3 => bt s 3 == 100
  | 4 => bt s 4 == 0
  | 5 => bt s 5 == 0
  | 6 => bt s 6 == 0
  | 7 => bt s 7 == 6
  | 8 => bt s 8 == 0
  | 9 => decide (bt s 9 ≤ 1)
  | 10 => bt s 10 == 0
  | 11 => okN (bt s 11) (bt s 9)
  | 12 => decide (bt s 12 < 128)
  | _ => decide (bt s 13 > 0) || decide (bt s 12 > 0)
def headGo (s : ByteArray) : Nat → Nat → Option (Int × Int)
  | 0, _ => none
  | n + 1, i => if (i : Int) < s.size then (if okAt s i = true then headGo s n (i + 1) else some ((i : Int), 160)) else some ((s.size : Int), 152)
end Go.Proofs.YtdmnknhlibaaoaaDoor.M
namespace Go.Proofs.YtdmnknhlibaaoaaDoor.M
open Go.RowKit Go.Proofs.YtdmnknhlibaaoaaDoorW.PrintWords Go.Proofs.YtdmnknhlibaaoaaDoorW.PrintLast Go.Proofs.YtdmnknhlibaaoaaDoorW.PrintMore
set_option linter.unusedVariables false
set_option linter.unusedSimpArgs false
section
variable {s : ByteArray} {p : Int} {q : Bool} {g : Nat} {w0 w : World} {e : Ending} {w' : World}
theorem ByteEnd.yes (h : ByteEnd s p q g w0 w e w') (h1 : p < s.size) (h2 : q = true) : e = .returned (.int .i64 (bt s p)) ∧ IsS63 w0 w' g s (p + 1) ∧ Below w0.heap.size w0 w' ∧ KeepBut w w' g none := by
  obtain ⟨a, b, c | c | c⟩ := h
  · exact absurd h1 c.1
  · rw [h2] at c; cases c.2.1
  · exact ⟨c.2.2.1, c.2.2.2, a, b⟩
theorem ByteEnd.no (h : ByteEnd s p q g w0 w e w') (h1 : ¬ (p < s.size ∧ q = true)) : e = (if p < s.size then gone p 160 else gone s.size 152) ∧ Below w0.heap.size w0 w' ∧ KeepBut w w' g none := by
  obtain ⟨a, b, c | c | c⟩ := h
  · exact ⟨by rw [if_neg c.1]; exact c.2, a, b⟩
  · exact ⟨by rw [if_pos c.1]; exact c.2.2, a, b⟩
  · exact absurd ⟨c.1, c.2.1⟩ h1
end
def orB (hi lo : Int) : Int := bits BinOp.or IntKind.i64 (IntKind.i64.wrap (hi * 256)) lo
def HeadEnd (s : ByteArray) (g fb : Nat) (w0 w : World) (e : Ending) (w' : World) : Prop := Below w0.heap.size w0 w' ∧ KeepBut w w' g (some fb) ∧ ∃ x y : Int, w'.heap[fb]? = some (.cells #[.int .i64 x, .int .i64 y, .slice none 0 0] 32 (0, 0)) ∧
  (match headGo s 14 0 with
  | some (a, c) => e = gone a c
  | none => e = .returned (.int .i64 (bt s 11)) ∧ IsS63 w0 w' g s 14 ∧ x = bt s 9 ∧ y = orB (bt s 12) (bt s 13))
def nameAt (k : Nat) : Int := match k with | 0 => 77 | 1 => 84 | 2 => 104 | 3 => 100 | 7 => 6 | _ => 0
theorem name_cell {W : World} {b : Nat} {fz : Nat × Nat} (h : W.heap[b]? = some (.cells #[.int .u8 77, .int .u8 84, .int .u8 104, .int .u8 100, .int .u8 0, .int .u8 0, .int .u8 0, .int .u8 6] 5 fz)) {k : Nat} (hk : k < 8) : W.cell? ⟨b, k, none⟩ = some (.int .u8 (nameAt k)) := by
  simp only [World.cell?, h]
  rcases (show k = 0 ∨ k = 1 ∨ k = 2 ∨ k = 3 ∨ k = 4 ∨ k = 5 ∨ k = 6 ∨ k = 7 by omega) with rfl | rfl | rfl | rfl | rfl | rfl | rfl | rfl <;> rfl
theorem ok_name (s : ByteArray) {k : Nat} (hk : k < 8) : okAt s k = (bt s k == nameAt k) := by
  rcases (show k = 0 ∨ k = 1 ∨ k = 2 ∨ k = 3 ∨ k = 4 ∨ k = 5 ∨ k = 6 ∨ k = 7 by omega) with rfl | rfl | rfl | rfl | rfl | rfl | rfl | rfl <;> rfl
structure Mid (s : ByteArray) (g fb : Nat) (w0 w W : World) (i : Nat) (x y : Int) : Prop where
  st : IsS63 w0 W g s (i : Int)
  fl : W.heap[fb]? = some (.cells #[.int .i64 x, .int .i64 y, .slice none 0 0] 32 (0, 0))
  bx : W.heap[w.heap.size]? = some (.cells #[.pointer (some ⟨fb, 0, none⟩)] 65 (0, 0))
  be : Below w0.heap.size w0 W
  kp : KeepBut w W g (some fb)
  go : headGo s 14 0 = headGo s (14 - i) i
  le : (i : Int) ≤ s.size
theorem keep_row {w W : World} {g : Nat} {row : Option Nat} (h : KeepBut w W g none) : KeepBut w W g row := ⟨h.1, fun i hi hg _ => h.2 i hi hg (by simp)⟩
theorem Mid.byte {s : ByteArray} {g fb : Nat} {w0 w W W' : World} {i : Nat} {x y : Int} (h : Mid s g fb w0 w W i x y) (hi : IsS63 w0 W' g s ((i : Int) + 1)) (hb : Below w0.heap.size w0 W') (hk : KeepBut W W' g none) (hfg : fb ≠ g) (hgw : g < w.heap.size) (hi14 : i < 14) (h1 : (i : Int) < s.size) (h2 : okAt s i = true) : Mid s g fb w0 w W' (i + 1) x y := by
  refine ⟨?_, hk.blk h.fl hfg (by simp), hk.blk h.bx (by omega) (by simp), hb, h.kp.trans (keep_row hk) (.inl rfl), ?_, by omega⟩
  · have : ((i + 1 : Nat) : Int) = (i : Int) + 1 := by omega
    rw [this]; exact hi
  · rw [h.go, show 14 - i = (14 - (i + 1)) + 1 by omega, headGo, if_pos h1, if_pos h2]
theorem Mid.step {s : ByteArray} {g fb : Nat} {w0 w W W' : World} {i : Nat} {x y : Int} {q : Bool} (j : Nat) (hj : i + 1 = j) (hq : okAt s i = q) (h : Mid s g fb w0 w W i x y) (hi : IsS63 w0 W' g s ((i : Int) + 1)) (hb : Below w0.heap.size w0 W') (hk : KeepBut W W' g none) (hfg : fb ≠ g) (hgw : g < w.heap.size) (hi14 : i < 14) (h1 : (i : Int) < s.size) (h2 : q = true) : Mid s g fb w0 w W' j x y := by
  subst hj
  exact h.byte hi hb hk hfg hgw hi14 h1 (hq.trans h2)
theorem ok8 (s : ByteArray) : okAt s 8 = (bt s ((8 : Nat) : Int) == 0) := rfl
theorem ok9 (s : ByteArray) : okAt s 9 = decide (bt s ((9 : Nat) : Int) ≤ 1) := rfl
theorem ok10 (s : ByteArray) : okAt s 10 = (bt s ((10 : Nat) : Int) == 0) := rfl
theorem ok11 (s : ByteArray) : okAt s 11 = okN (bt s ((11 : Nat) : Int)) (bt s 9) := rfl
theorem ok12 (s : ByteArray) : okAt s 12 = decide (bt s ((12 : Nat) : Int) < 128) := rfl
theorem ok13 (s : ByteArray) : okAt s 13 = (decide (bt s ((13 : Nat) : Int) > 0) || decide (bt s 12 > 0)) := rfl
theorem Mid.alloc {s : ByteArray} {g fb : Nat} {w0 w W : World} {i : Nat} {x y : Int} (h : Mid s g fb w0 w W i x y) (o : Obj) (hw : w.heap.size ≤ W.heap.size) (hw0 : w0.heap.size ≤ W.heap.size) : Mid s g fb w0 w (W.alloc o) i x y :=
  ⟨h.st.alloc o, blk_alloc h.fl _, blk_alloc h.bx _, below_alloc h.be _, ⟨by simp; omega, fun k hk hg hr => by
    have e := h.kp.2 k hk hg hr
    rw [← e]
    exact Below.heap_alloc _ _ _ (by omega)⟩, h.go, h.le⟩
theorem Mid.far {s : ByteArray} {g fb : Nat} {w0 w W : World} {i : Nat} {x y : Int} (h : Mid s g fb w0 w W i x y) (b j : Nat) (v : Value) (hgw : g < w.heap.size) (hfw : fb < w.heap.size) (hw0 : w0.heap.size ≤ w.heap.size) (hb : w.heap.size < b) : Mid s g fb w0 w (W.setCell ⟨b, j, none⟩ v) i x y :=
  ⟨h.st.far (by show g ≠ b; omega) _, blk_far h.fl (by show fb ≠ b; omega) _, blk_far h.bx (by show w.heap.size ≠ b; omega) _, below_set h.be (by omega), ⟨by simpa [World.setCell] using h.kp.1, fun k hk hg hr => by
    rw [← h.kp.2 k hk hg hr]
    exact Below.heap_setCell _ _ _ _ (by show k ≠ b; omega)⟩, h.go, h.le⟩
theorem Mid.setx {s : ByteArray} {g fb : Nat} {w0 w W : World} {i : Nat} {x y : Int} (h : Mid s g fb w0 w W i x y) (v : Int) (hfw : fb < w.heap.size) (hfg : fb ≠ g) (hfb : w0.heap.size ≤ fb) : Mid s g fb w0 w (W.setCell ⟨fb, 0, none⟩ (.int .i64 v)) i v y :=
  ⟨h.st.far (by show g ≠ fb; omega) _, by simpa using blk_set h.fl 0 (.int .i64 v), blk_far h.bx (by show w.heap.size ≠ fb; omega) _, below_set h.be hfb, ⟨by simpa [World.setCell] using h.kp.1, fun k hk hg hr => by
    rw [← h.kp.2 k hk hg hr]
    exact Below.heap_setCell _ _ _ _ (by show k ≠ fb; intro e; exact hr (by rw [e]))⟩, h.go, h.le⟩
theorem Mid.sety {s : ByteArray} {g fb : Nat} {w0 w W : World} {i : Nat} {x y : Int} (h : Mid s g fb w0 w W i x y) (v : Int) (hfw : fb < w.heap.size) (hfg : fb ≠ g) (hfb : w0.heap.size ≤ fb) : Mid s g fb w0 w (W.setCell ⟨fb, 1, none⟩ (.int .i64 v)) i x v :=
  ⟨h.st.far (by show g ≠ fb; omega) _, by simpa using blk_set h.fl 1 (.int .i64 v), blk_far h.bx (by show w.heap.size ≠ fb; omega) _, below_set h.be hfb, ⟨by simpa [World.setCell] using h.kp.1, fun k hk hg hr => by
    rw [← h.kp.2 k hk hg hr]
    exact Below.heap_setCell _ _ _ _ (by show k ≠ fb; intro e; exact hr (by rw [e]))⟩, h.go, h.le⟩
theorem gone_any {c : Prop} [Decidable c] {e : Ending} {a b a' b' : Int} (h : e = if c then gone a b else gone a' b') : ∃ x y, e = gone x y := by
  split at h
  · exact ⟨_, _, h⟩
  · exact ⟨_, _, h⟩
theorem cell_of_heap {w1 W : World} (h : w1.heap = W.heap) (a : Addr) : w1.cell? a = W.cell? a := by simp only [World.cell?, h]
theorem Mid.endAt {s : ByteArray} {g fb : Nat} {w0 w W W' : World} {i : Nat} {x y : Int} {e : Ending} (h : Mid s g fb w0 w W i x y) (hb : Below w0.heap.size w0 W') (hk : KeepBut W W' g none) (hfg : fb ≠ g) (hi14 : i < 14) (h1 : ¬ ((i : Int) < s.size ∧ okAt s i = true)) (he : e = if (i : Int) < s.size then gone i 160 else gone s.size 152) : HeadEnd s g fb w0 w e W' := by
  refine ⟨hb, h.kp.trans (keep_row hk) (.inl rfl), x, y, hk.blk h.fl hfg (by simp), ?_⟩
  rw [h.go, show 14 - i = (14 - (i + 1)) + 1 by omega, headGo]
  by_cases c : (i : Int) < s.size
  · rw [if_pos c, if_neg (fun z => h1 ⟨c, z⟩)]
    rw [if_pos c] at he
    exact he
  · rw [if_neg c]
    rw [if_neg c] at he
    exact he
theorem Mid.ends {s : ByteArray} {g fb : Nat} {w0 w W W' : World} {i : Nat} {x y : Int} {q : Bool} {e : Ending} (hq : okAt s i = q) (h : Mid s g fb w0 w W i x y) (hb : Below w0.heap.size w0 W') (hk : KeepBut W W' g none) (hfg : fb ≠ g) (hi14 : i < 14) (h1 : ¬ ((i : Int) < s.size ∧ q = true)) (he : e = if (i : Int) < s.size then gone i 160 else gone s.size 152) : HeadEnd s g fb w0 w e W' := by
  rw [← hq] at h1
  exact h.endAt hb hk hfg hi14 h1 he
set_option maxHeartbeats 8000000 in
set_option maxRecDepth 100000 in
theorem head_calls (g fb : Nat) (s : ByteArray) (w0 w : World) (hI : IsS63 w0 w g s 0) (hF : w.heap[fb]? = some (.cells #[.int .i64 0, .int .i64 0, .slice none 0 0] 32 (0, 0))) (hfb : w0.heap.size ≤ fb) (hB : Below w0.heap.size w0 w) (hs : s.size ≤ 100000) :
    Calls Tryd.prog 20 #[.pointer (some ⟨g, 0, none⟩), .pointer (some ⟨fb, 0, none⟩)] w (HeadEnd s g fb w0 w) := by
  have hcv : (convert 56 56 (.slice (some ⟨w.heap.size + 1, 0, none⟩) 8 8)).run Tryd.prog ((w.alloc (.cells #[.pointer (some ⟨fb, 0, none⟩)] 65)).alloc (.cells #[.int .u8 77, .int .u8 84, .int .u8 104, .int .u8 100, .int .u8 0, .int .u8 0, .int .u8 0, .int .u8 6] 5)) =
      .ok (.slice (some ⟨w.heap.size + 1, 0, none⟩) 8 8) ((w.alloc (.cells #[.pointer (some ⟨fb, 0, none⟩)] 65)).alloc (.cells #[.int .u8 77, .int .u8 84, .int .u8 104, .int .u8 100, .int .u8 0, .int .u8 0, .int .u8 0, .int .u8 6] 5 (8, 9))) := by
    have h := Lib.run_convert_bytes_const (P := Tryd.prog) (w.alloc (.cells #[.pointer (some ⟨fb, 0, none⟩)] 65)) 56 5 #[.int .u8 77, .int .u8 84, .int .u8 104, .int .u8 100, .int .u8 0, .int .u8 0, .int .u8 0, .int .u8 6] 8 8 Tryd.underlying56 Tryd.underlying5
    rw [show (w.alloc (.cells #[.pointer (some ⟨fb, 0, none⟩)] 65)).heap.size = w.heap.size + 1 by simp] at h
    exact h
  have hmf : ∀ (fn : Fn) (first cap : Array Value) (w : World), (Instr.makeFunc fn first cap).run Tryd.prog w = .ok (.func fn first cap) w := fun _ _ _ _ => rfl
  have HI := Aside0.mk hI
  have HF := Aside0.mk hF
  have HB := Aside0.mk hB
  clear hI hF hB
  go_enter Tryd.func20, Tryd.ntmps20
  have hgw : g < w.heap.size := HI.out.lt
  have hfw : fb < w.heap.size := blk_lt HF.out
  have hfg : fb ≠ g := fun e => HI.out.ne_blk HF.out (by decide) e.symm
  have hw0 : w0.heap.size ≤ w.heap.size := HB.out.size
  go_wp2
  go_loopw [13] (fun i wr => ∃ k : Nat, k ≤ 8 ∧ i = .int .i64 (k : Int) ∧ Aside0 (Mid s g fb w0 w wr k 0 0) ∧ Aside0 (wr.heap[w.heap.size + 1]? = some (.cells #[.int .u8 77, .int .u8 84, .int .u8 104, .int .u8 100, .int .u8 0, .int .u8 0, .int .u8 0, .int .u8 6] 5 (8, 9)))) (fun i _ => 8 - (intOf i).toNat)
  case atStart =>
    refine ⟨0, by omega, rfl, ⟨⟨?_, ?_, ?_, ?_, ?_, rfl, by omega⟩⟩, ⟨?_⟩⟩
    · exact (HI.out.alloc _).alloc _
    · exact blk_alloc (blk_alloc HF.out _) _
    · exact blk_alloc (by simpa using heap_alloc_new w _) _
    · exact below_alloc (below_alloc HB.out _) _
    · exact KeepBut.of_below (below_alloc (below_alloc (Below.refl _ _) _) _) _ _
    · simpa using heap_alloc_new (w.alloc (.cells #[.pointer (some ⟨fb, 0, none⟩)] 65)) (.cells #[.int .u8 77, .int .u8 84, .int .u8 104, .int .u8 100, .int .u8 0, .int .u8 0, .int .u8 0, .int .u8 6] 5 (8, 9))
  case round =>
    clear HI HF HB hcv
    obtain ⟨k, hk, rfl, HM, HC⟩ := hrel
    by_cases hlt : k < 8
    · have hcell := name_cell HC.out hlt
      have hd : decide ((k : Int) < 8) = true := decide_eq_true (by omega)
      have hsz : w.heap.size + 1 < wr.heap.size := blk_lt HC.out
      have HM1 := Aside0.mk (HM.out.alloc (.cells #[.int .u8 (nameAt k)] 5) (by omega) (by omega))
      have HC1 := Aside0.mk (blk_alloc HC.out (.cells #[.int .u8 (nameAt k)] 5))
      have hcc : (wr.alloc (.cells #[.int .u8 (nameAt k)] 5)).cell? ⟨wr.heap.size, 0, none⟩ = some (.int .u8 (nameAt k)) := (blk_cell (show (wr.alloc (.cells #[.int .u8 (nameAt k)] 5)).heap[wr.heap.size]? = some (.cells #[.int .u8 (nameAt k)] 5 (0, 0)) by simpa using heap_alloc_new wr _) 0).trans rfl
      have HCC := Aside0.mk hcc
      clear hcc
      have HPR : 0 ≤ (k : Int) ∧ (k : Int) ≤ s.size := ⟨by omega, HM.out.le⟩
      by_cases hok : (k : Int) < s.size ∧ okAt s k = true
      · obtain ⟨ho1, ho2⟩ := hok
        have HO2 := Aside0.mk ho2
        have HO1 := Aside0.mk ho1
        clear ho1 ho2
        go_wp2_with (go_at_call 33; refine (byte_49 #[.pointer (some ⟨wr.heap.size, 0, none⟩)] (bt s k == nameAt k) g s (k : Int) w0 _ HM1.out.st HM1.out.be HPR hs (fun _ w1 hw1 => c49 _ _ _ w1 ((cell_of_heap hw1 _).trans HCC.out))).mono ?_; intro e w' hbe; obtain ⟨he, hi, hb, hkk⟩ := ByteEnd.yes hbe HO1.out (by rw [← ok_name s hlt]; exact HO2.out); subst he; have HM2 := Aside0.mk (HM1.out.byte hi hb hkk hfg hgw (by omega) HO1.out HO2.out); have HC2 := Aside0.mk (hkk.blk HC1.out (by omega) (by simp)); clear hbe hi hb hkk)
        go_roundw
        case rel => exact ⟨k + 1, by omega, by go_num, HM2, HC2⟩
        case measure => simp [intOf]; omega
      · have HOK := Aside0.mk hok
        clear hok
        go_wp2_with (go_at_call 33; refine (byte_49 #[.pointer (some ⟨wr.heap.size, 0, none⟩)] (bt s k == nameAt k) g s (k : Int) w0 _ HM1.out.st HM1.out.be HPR hs (fun _ w1 hw1 => c49 _ _ _ w1 ((cell_of_heap hw1 _).trans HCC.out))).mono ?_; intro e w' hbe; obtain ⟨he, hb, hkk⟩ := ByteEnd.no hbe (by rw [← ok_name s hlt]; exact HOK.out); have HG := Aside0.mk (HM1.out.endAt hb hkk hfg (by omega) HOK.out he); obtain ⟨a_, c_, hg_⟩ := gone_any he; clear hbe hb hkk he; simp only [gone] at hg_; subst hg_)
        exact ⟨rfl, HG.out⟩
    ·
      obtain rfl : k = 8 := by omega
      have HM8 := HM
      clear HM HC
      go_wp2_with fail
      have HPR8 : 0 ≤ ((8 : Nat) : Int) ∧ ((8 : Nat) : Int) ≤ s.size := ⟨by omega, HM8.out.le⟩
      by_cases hok : ((8 : Nat) : Int) < s.size ∧ (bt s ((8 : Nat) : Int) == 0) = true
      · have HOK := Aside0.mk hok
        clear hok
        go_at_call 33
        refine (byte_50 #[] ((bt s ((8 : Nat) : Int) == 0)) g s ((8 : Nat) : Int) w0 _ ?st ?be HPR8 hs (fun _ w1 _ => c50 _ w1)).mono ?_
        (case st => exact HM8.out.st)
        (case be => first | exact HM8.out.be | exact below_drew1 HM8.out.be)
        intro e w9 hbe
        obtain ⟨he, hi, hb, hkk⟩ := ByteEnd.yes hbe HOK.out.1 HOK.out.2
        subst he
        have HM9 := Aside0.mk (Mid.step 9 rfl (ok8 s) HM8.out hi hb hkk hfg hgw (by omega) HOK.out.1 HOK.out.2)
        clear hbe hi hb hkk HM8
        go_wp2_with fail
        have hbx := (blk_cell HM9.out.bx 0).trans rfl
        have HPR9 : 0 ≤ ((9 : Nat) : Int) ∧ ((9 : Nat) : Int) ≤ s.size := ⟨by omega, HM9.out.le⟩
        by_cases hok : ((9 : Nat) : Int) < s.size ∧ decide (bt s ((9 : Nat) : Int) ≤ 1) = true
        · have HOK := Aside0.mk hok
          clear hok
          go_region_with (first | (go_at_call 33; refine (byte_51 #[] (decide (bt s ((9 : Nat) : Int) ≤ 1)) g s ((9 : Nat) : Int) w0 _ ?st ?be HPR9 hs (fun _ w1 _ => c51 _ w1)).mono ?_; (case st => exact HM9.out.st); (case be => first | exact HM9.out.be | exact below_drew1 HM9.out.be); intro e w10 hbe; obtain ⟨he, hi, hb, hkk⟩ := ByteEnd.yes hbe HOK.out.1 HOK.out.2; subst he; have HM10 := Aside0.mk (Mid.step 10 rfl (ok9 s) HM9.out hi hb hkk hfg hgw (by omega) HOK.out.1 HOK.out.2); have hbx2 := (blk_cell HM10.out.bx 0).trans rfl; have hff := blk_frozen HM10.out.fl 0; have hfc := (blk_cell HM10.out.fl 0).trans rfl; clear hbe hi hb hkk HM9))
          all_goals
            have HMs := Aside0.mk (HM10.out.setx (bt s 9) hfw hfg hfb)
            clear HM10 hbx hbx2 hff hfc
            have HM10 := HMs
            clear HMs
            go_wp2_with fail
            have HPR10 : 0 ≤ ((10 : Nat) : Int) ∧ ((10 : Nat) : Int) ≤ s.size := ⟨by omega, HM10.out.le⟩
            by_cases hok : ((10 : Nat) : Int) < s.size ∧ (bt s ((10 : Nat) : Int) == 0) = true
            · have HOK := Aside0.mk hok
              clear hok
              go_at_call 33
              refine (byte_50 #[] ((bt s ((10 : Nat) : Int) == 0)) g s ((10 : Nat) : Int) w0 _ ?st ?be HPR10 hs (fun _ w1 _ => c50 _ w1)).mono ?_
              (case st => exact HM10.out.st)
              (case be => first | exact HM10.out.be | exact below_drew1 HM10.out.be)
              intro e w11 hbe
              obtain ⟨he, hi, hb, hkk⟩ := ByteEnd.yes hbe HOK.out.1 HOK.out.2
              subst he
              have HM11 := Aside0.mk (Mid.step 11 rfl (ok10 s) HM10.out hi hb hkk hfg hgw (by omega) HOK.out.1 HOK.out.2)
              clear hbe hi hb hkk HM10
              go_wp2_with fail
              have HPR11 : 0 ≤ ((11 : Nat) : Int) ∧ ((11 : Nat) : Int) ≤ s.size := ⟨by omega, HM11.out.le⟩
              by_cases hok : ((11 : Nat) : Int) < s.size ∧ okN (bt s ((11 : Nat) : Int)) (bt s 9) = true
              · have HOK := Aside0.mk hok
                clear hok
                go_at_call 33
                refine (byte_52 #[.pointer (some ⟨w.heap.size, 0, none⟩)] (okN (bt s ((11 : Nat) : Int)) (bt s 9)) g s ((11 : Nat) : Int) w0 _ ?st ?be HPR11 hs (fun _ w1 hw1 => c52 _ _ _ fb w1 ((cell_of_heap hw1 _).trans ((blk_cell HM11.out.bx 0).trans rfl)) ((cell_of_heap hw1 _).trans ((blk_cell HM11.out.fl 0).trans rfl)))).mono ?_
                (case st => exact HM11.out.st)
                (case be => first | exact HM11.out.be | exact below_drew1 HM11.out.be)
                intro e w12 hbe
                obtain ⟨he, hi, hb, hkk⟩ := ByteEnd.yes hbe HOK.out.1 HOK.out.2
                subst he
                have HM12 := Aside0.mk (Mid.step 12 rfl (ok11 s) HM11.out hi hb hkk hfg hgw (by omega) HOK.out.1 HOK.out.2)
                clear hbe hi hb hkk HM11
                go_wp2_with fail
                have HPR12 : 0 ≤ ((12 : Nat) : Int) ∧ ((12 : Nat) : Int) ≤ s.size := ⟨by omega, HM12.out.le⟩
                by_cases hok : ((12 : Nat) : Int) < s.size ∧ decide (bt s ((12 : Nat) : Int) < 128) = true
                · have HOK := Aside0.mk hok
                  clear hok
                  go_at_call 33
                  refine (byte_53 #[] (decide (bt s ((12 : Nat) : Int) < 128)) g s ((12 : Nat) : Int) w0 _ ?st ?be HPR12 hs (fun _ w1 _ => c53 _ w1)).mono ?_
                  (case st => exact HM12.out.st)
                  (case be => first | exact HM12.out.be | exact below_drew1 HM12.out.be)
                  intro e w13 hbe
                  obtain ⟨he, hi, hb, hkk⟩ := ByteEnd.yes hbe HOK.out.1 HOK.out.2
                  subst he
                  have HM13 := Aside0.mk (Mid.step 13 rfl (ok12 s) HM12.out hi hb hkk hfg hgw (by omega) HOK.out.1 HOK.out.2)
                  clear hbe hi hb hkk HM12
                  go_wp2_with fail
                  have hsz := blk_lt HM13.out.bx
                  have HMs := Aside0.mk (HM13.out.alloc (.cells #[.int .i64 (bt s 12)] 3) (by omega) (by omega))
                  clear HM13
                  have HM13 := HMs
                  clear HMs
                  have HH := Aside0.mk (show (w13.alloc (.cells #[.int .i64 (bt s 12)] 3)).heap[w13.heap.size]? = some (.cells #[.int .i64 (bt s 12)] 3 (0, 0)) by simpa using heap_alloc_new w13 _)
                  have hbx := (blk_cell HM13.out.bx 0).trans rfl
                  have hhc := (blk_cell HH.out 0).trans rfl
                  have HPR13 : 0 ≤ ((13 : Nat) : Int) ∧ ((13 : Nat) : Int) ≤ s.size := ⟨by omega, HM13.out.le⟩
                  by_cases hok : ((13 : Nat) : Int) < s.size ∧ (decide (bt s ((13 : Nat) : Int) > 0) || decide (bt s 12 > 0)) = true
                  · have HOK := Aside0.mk hok
                    clear hok
                    go_region_with (first | (go_at_call 33; refine (byte_54 #[.pointer (some ⟨w13.heap.size, 0, none⟩)] ((decide (bt s ((13 : Nat) : Int) > 0) || decide (bt s 12 > 0))) g s ((13 : Nat) : Int) w0 (w13.alloc (.cells #[.int .i64 (bt s 12)] 3)).drew ?st ?be HPR13 hs (fun _ w1 hw1 => c54 _ _ _ w1 ((cell_of_heap (show w1.heap = (w13.alloc (.cells #[.int .i64 (bt s 12)] 3)).heap from hw1) _).trans ((blk_cell HH.out 0).trans rfl)))).mono ?_; (case st => exact HM13.out.st); (case be => exact qqg); intro e w14 hbe; obtain ⟨he, hi, hb, hkk⟩ := ByteEnd.yes hbe HOK.out.1 HOK.out.2; subst he; have HM14 := Aside0.mk (Mid.step 14 rfl (ok13 s) HM13.out hi hb hkk hfg hgw (by omega) HOK.out.1 HOK.out.2); have hbx2 := (blk_cell HM14.out.bx 0).trans rfl; have hff := blk_frozen HM14.out.fl 1; have hfc := (blk_cell HM14.out.fl 1).trans rfl; have HH2 := Aside0.mk (hkk.blk HH.out (by omega) (by simp)); have hhc2 := (blk_cell HH2.out 0).trans rfl; clear hbe hi hb hkk HM13))
                    all_goals
                      have HMs := Aside0.mk (HM14.out.sety (orB (bt s 12) (bt s 13)) hfw hfg hfb)
                      clear HM14 hbx2 hff hfc HH2 hhc2
                      go_wp2
                      go_ret
                      exact ⟨HMs.out.be, HMs.out.kp, _, _, HMs.out.fl, by rw [show headGo s 14 0 = none from HMs.out.go]; exact ⟨rfl, HMs.out.st, rfl, rfl⟩⟩
                  · have HOK := Aside0.mk hok
                    clear hok
                    refine wp_region_any (by kernel_rfl) ?_
                    (try (change wpAny _ _ _ _ _ _ _ (World.drew _)))
                    refine wpAny_take (i := 3) (v := .pointer (some ⟨g, 0, none⟩)) rfl (by kernel_rfl) (by kernel_rfl) (by kernel_rfl) (fun _ _ _ h => h) (Or.inl ⟨by rfl, ?_⟩) ?_
                    · intro w_; go_simp
                    refine wpAny_ready (rs := [0, 1, 4]) (by kernel_rfl) (by simp) ?_
                    refine AllReady.cons rfl (fun K hK => ?_) (AllReady.cons rfl (fun K hK => ?_) (AllReady.cons rfl (fun K hK => ?_) (AllReady.nil)))
                    · go_simp
                      refine hK _ _ ?_
                      clear hK K
                      refine wpAny_ready (rs := [1, 4]) (by kernel_rfl) (by simp) ?_
                      refine AllReady.cons rfl (fun K hK => ?_) (AllReady.cons rfl (fun K hK => ?_) (AllReady.nil))
                      · go_simp
                        refine hK _ _ ?_
                        clear hK K
                        refine wpAny_take (i := 2) (v := .int .i64 (IntKind.i64.wrap (bt s 12 * 256))) rfl (by kernel_rfl) (by kernel_rfl) (by kernel_rfl) (fun _ _ _ h => h) (Or.inl ⟨by rfl, ?_⟩) ?_
                        · intro w_; go_simp
                        refine wpAny_ready (rs := [4]) (by kernel_rfl) (by simp) ?_
                        refine AllReady.cons rfl (fun K hK => ?_) (AllReady.nil)
                        · go_simp
                          refine hK _ _ ?_
                          clear hK K
                          refine wpAny_ready (rs := [5]) (by kernel_rfl) (by simp) ?_
                          refine AllReady.cons rfl (fun K hK => ?_) (AllReady.nil)
                          · go_simp
                            go_wp2_with (first | (go_at_call 33; refine (byte_54 #[.pointer (some ⟨w13.heap.size, 0, none⟩)] ((decide (bt s ((13 : Nat) : Int) > 0) || decide (bt s 12 > 0))) g s ((13 : Nat) : Int) w0 (w13.alloc (.cells #[.int .i64 (bt s 12)] 3)).drew ?st ?be HPR13 hs (fun _ w1 hw1 => c54 _ _ _ w1 ((cell_of_heap (show w1.heap = (w13.alloc (.cells #[.int .i64 (bt s 12)] 3)).heap from hw1) _).trans ((blk_cell HH.out 0).trans rfl)))).mono ?_; (case st => exact HM13.out.st); (case be => exact qqg); intro e w14 hbe; obtain ⟨he, hb, hkk⟩ := ByteEnd.no hbe HOK.out; have HG := Aside0.mk (Mid.ends (ok13 s) HM13.out hb hkk hfg (by omega) HOK.out he); obtain ⟨a_, c_, hg_⟩ := gone_any he; clear hbe hb hkk he; simp only [gone] at hg_; subst hg_))
                            exact ⟨rfl, HG.out⟩
                      · go_simp
                        refine hK _ _ ?_
                        clear hK K
                        refine wpAny_ready (rs := [1, 5]) (by kernel_rfl) (by simp) ?_
                        refine AllReady.cons rfl (fun K hK => ?_) (AllReady.cons rfl (fun K hK => ?_) (AllReady.nil))
                        · go_simp
                          refine hK _ _ ?_
                          clear hK K
                          refine wpAny_take (i := 2) (v := .int .i64 (IntKind.i64.wrap (bt s 12 * 256))) rfl (by kernel_rfl) (by kernel_rfl) (by kernel_rfl) (fun _ _ _ h => h) (Or.inl ⟨by rfl, ?_⟩) ?_
                          · intro w_; go_simp
                          refine wpAny_ready (rs := [5]) (by kernel_rfl) (by simp) ?_
                          refine AllReady.cons rfl (fun K hK => ?_) (AllReady.nil)
                          · go_simp
                            go_wp2_with (first | (go_at_call 33; refine (byte_54 #[.pointer (some ⟨w13.heap.size, 0, none⟩)] ((decide (bt s ((13 : Nat) : Int) > 0) || decide (bt s 12 > 0))) g s ((13 : Nat) : Int) w0 (w13.alloc (.cells #[.int .i64 (bt s 12)] 3)).drew ?st ?be HPR13 hs (fun _ w1 hw1 => c54 _ _ _ w1 ((cell_of_heap (show w1.heap = (w13.alloc (.cells #[.int .i64 (bt s 12)] 3)).heap from hw1) _).trans ((blk_cell HH.out 0).trans rfl)))).mono ?_; (case st => exact HM13.out.st); (case be => exact qqg); intro e w14 hbe; obtain ⟨he, hb, hkk⟩ := ByteEnd.no hbe HOK.out; have HG := Aside0.mk (Mid.ends (ok13 s) HM13.out hb hkk hfg (by omega) HOK.out he); obtain ⟨a_, c_, hg_⟩ := gone_any he; clear hbe hb hkk he; simp only [gone] at hg_; subst hg_))
                            exact ⟨rfl, HG.out⟩
                        · go_simp
                          go_wp2_with (first | (go_at_call 33; refine (byte_54 #[.pointer (some ⟨w13.heap.size, 0, none⟩)] ((decide (bt s ((13 : Nat) : Int) > 0) || decide (bt s 12 > 0))) g s ((13 : Nat) : Int) w0 (w13.alloc (.cells #[.int .i64 (bt s 12)] 3)).drew ?st ?be HPR13 hs (fun _ w1 hw1 => c54 _ _ _ w1 ((cell_of_heap (show w1.heap = (w13.alloc (.cells #[.int .i64 (bt s 12)] 3)).heap from hw1) _).trans ((blk_cell HH.out 0).trans rfl)))).mono ?_; (case st => exact HM13.out.st); (case be => exact qqg); intro e w14 hbe; obtain ⟨he, hb, hkk⟩ := ByteEnd.no hbe HOK.out; have HG := Aside0.mk (Mid.ends (ok13 s) HM13.out hb hkk hfg (by omega) HOK.out he); obtain ⟨a_, c_, hg_⟩ := gone_any he; clear hbe hb hkk he; simp only [gone] at hg_; subst hg_))
                          exact ⟨rfl, HG.out⟩
                    · go_simp
                      refine hK _ _ ?_
                      clear hK K
                      refine wpAny_take (i := 2) (v := .int .i64 (IntKind.i64.wrap (bt s 12 * 256))) rfl (by kernel_rfl) (by kernel_rfl) (by kernel_rfl) (fun _ _ _ h => h) (Or.inl ⟨by rfl, ?_⟩) ?_
                      · intro w_; go_simp
                      refine wpAny_ready (rs := [0, 4]) (by kernel_rfl) (by simp) ?_
                      refine AllReady.cons rfl (fun K hK => ?_) (AllReady.cons rfl (fun K hK => ?_) (AllReady.nil))
                      · go_simp
                        refine hK _ _ ?_
                        clear hK K
                        refine wpAny_ready (rs := [4]) (by kernel_rfl) (by simp) ?_
                        refine AllReady.cons rfl (fun K hK => ?_) (AllReady.nil)
                        · go_simp
                          refine hK _ _ ?_
                          clear hK K
                          refine wpAny_ready (rs := [5]) (by kernel_rfl) (by simp) ?_
                          refine AllReady.cons rfl (fun K hK => ?_) (AllReady.nil)
                          · go_simp
                            go_wp2_with (first | (go_at_call 33; refine (byte_54 #[.pointer (some ⟨w13.heap.size, 0, none⟩)] ((decide (bt s ((13 : Nat) : Int) > 0) || decide (bt s 12 > 0))) g s ((13 : Nat) : Int) w0 (w13.alloc (.cells #[.int .i64 (bt s 12)] 3)).drew ?st ?be HPR13 hs (fun _ w1 hw1 => c54 _ _ _ w1 ((cell_of_heap (show w1.heap = (w13.alloc (.cells #[.int .i64 (bt s 12)] 3)).heap from hw1) _).trans ((blk_cell HH.out 0).trans rfl)))).mono ?_; (case st => exact HM13.out.st); (case be => exact qqg); intro e w14 hbe; obtain ⟨he, hb, hkk⟩ := ByteEnd.no hbe HOK.out; have HG := Aside0.mk (Mid.ends (ok13 s) HM13.out hb hkk hfg (by omega) HOK.out he); obtain ⟨a_, c_, hg_⟩ := gone_any he; clear hbe hb hkk he; simp only [gone] at hg_; subst hg_))
                            exact ⟨rfl, HG.out⟩
                      · go_simp
                        refine hK _ _ ?_
                        clear hK K
                        refine wpAny_ready (rs := [0, 5]) (by kernel_rfl) (by simp) ?_
                        refine AllReady.cons rfl (fun K hK => ?_) (AllReady.cons rfl (fun K hK => ?_) (AllReady.nil))
                        · go_simp
                          refine hK _ _ ?_
                          clear hK K
                          refine wpAny_ready (rs := [5]) (by kernel_rfl) (by simp) ?_
                          refine AllReady.cons rfl (fun K hK => ?_) (AllReady.nil)
                          · go_simp
                            go_wp2_with (first | (go_at_call 33; refine (byte_54 #[.pointer (some ⟨w13.heap.size, 0, none⟩)] ((decide (bt s ((13 : Nat) : Int) > 0) || decide (bt s 12 > 0))) g s ((13 : Nat) : Int) w0 (w13.alloc (.cells #[.int .i64 (bt s 12)] 3)).drew ?st ?be HPR13 hs (fun _ w1 hw1 => c54 _ _ _ w1 ((cell_of_heap (show w1.heap = (w13.alloc (.cells #[.int .i64 (bt s 12)] 3)).heap from hw1) _).trans ((blk_cell HH.out 0).trans rfl)))).mono ?_; (case st => exact HM13.out.st); (case be => exact qqg); intro e w14 hbe; obtain ⟨he, hb, hkk⟩ := ByteEnd.no hbe HOK.out; have HG := Aside0.mk (Mid.ends (ok13 s) HM13.out hb hkk hfg (by omega) HOK.out he); obtain ⟨a_, c_, hg_⟩ := gone_any he; clear hbe hb hkk he; simp only [gone] at hg_; subst hg_))
                            exact ⟨rfl, HG.out⟩
                        · go_simp
                          go_wp2_with (first | (go_at_call 33; refine (byte_54 #[.pointer (some ⟨w13.heap.size, 0, none⟩)] ((decide (bt s ((13 : Nat) : Int) > 0) || decide (bt s 12 > 0))) g s ((13 : Nat) : Int) w0 (w13.alloc (.cells #[.int .i64 (bt s 12)] 3)).drew ?st ?be HPR13 hs (fun _ w1 hw1 => c54 _ _ _ w1 ((cell_of_heap (show w1.heap = (w13.alloc (.cells #[.int .i64 (bt s 12)] 3)).heap from hw1) _).trans ((blk_cell HH.out 0).trans rfl)))).mono ?_; (case st => exact HM13.out.st); (case be => exact qqg); intro e w14 hbe; obtain ⟨he, hb, hkk⟩ := ByteEnd.no hbe HOK.out; have HG := Aside0.mk (Mid.ends (ok13 s) HM13.out hb hkk hfg (by omega) HOK.out he); obtain ⟨a_, c_, hg_⟩ := gone_any he; clear hbe hb hkk he; simp only [gone] at hg_; subst hg_))
                          exact ⟨rfl, HG.out⟩
                    · go_simp
                      refine hK _ _ ?_
                      clear hK K
                      refine wpAny_ready (rs := [0, 1, 5]) (by kernel_rfl) (by simp) ?_
                      refine AllReady.cons rfl (fun K hK => ?_) (AllReady.cons rfl (fun K hK => ?_) (AllReady.cons rfl (fun K hK => ?_) (AllReady.nil)))
                      · go_simp
                        refine hK _ _ ?_
                        clear hK K
                        refine wpAny_ready (rs := [1, 5]) (by kernel_rfl) (by simp) ?_
                        refine AllReady.cons rfl (fun K hK => ?_) (AllReady.cons rfl (fun K hK => ?_) (AllReady.nil))
                        · go_simp
                          refine hK _ _ ?_
                          clear hK K
                          refine wpAny_take (i := 2) (v := .int .i64 (IntKind.i64.wrap (bt s 12 * 256))) rfl (by kernel_rfl) (by kernel_rfl) (by kernel_rfl) (fun _ _ _ h => h) (Or.inl ⟨by rfl, ?_⟩) ?_
                          · intro w_; go_simp
                          refine wpAny_ready (rs := [5]) (by kernel_rfl) (by simp) ?_
                          refine AllReady.cons rfl (fun K hK => ?_) (AllReady.nil)
                          · go_simp
                            go_wp2_with (first | (go_at_call 33; refine (byte_54 #[.pointer (some ⟨w13.heap.size, 0, none⟩)] ((decide (bt s ((13 : Nat) : Int) > 0) || decide (bt s 12 > 0))) g s ((13 : Nat) : Int) w0 (w13.alloc (.cells #[.int .i64 (bt s 12)] 3)).drew ?st ?be HPR13 hs (fun _ w1 hw1 => c54 _ _ _ w1 ((cell_of_heap (show w1.heap = (w13.alloc (.cells #[.int .i64 (bt s 12)] 3)).heap from hw1) _).trans ((blk_cell HH.out 0).trans rfl)))).mono ?_; (case st => exact HM13.out.st); (case be => exact qqg); intro e w14 hbe; obtain ⟨he, hb, hkk⟩ := ByteEnd.no hbe HOK.out; have HG := Aside0.mk (Mid.ends (ok13 s) HM13.out hb hkk hfg (by omega) HOK.out he); obtain ⟨a_, c_, hg_⟩ := gone_any he; clear hbe hb hkk he; simp only [gone] at hg_; subst hg_))
                            exact ⟨rfl, HG.out⟩
                        · go_simp
                          go_wp2_with (first | (go_at_call 33; refine (byte_54 #[.pointer (some ⟨w13.heap.size, 0, none⟩)] ((decide (bt s ((13 : Nat) : Int) > 0) || decide (bt s 12 > 0))) g s ((13 : Nat) : Int) w0 (w13.alloc (.cells #[.int .i64 (bt s 12)] 3)).drew ?st ?be HPR13 hs (fun _ w1 hw1 => c54 _ _ _ w1 ((cell_of_heap (show w1.heap = (w13.alloc (.cells #[.int .i64 (bt s 12)] 3)).heap from hw1) _).trans ((blk_cell HH.out 0).trans rfl)))).mono ?_; (case st => exact HM13.out.st); (case be => exact qqg); intro e w14 hbe; obtain ⟨he, hb, hkk⟩ := ByteEnd.no hbe HOK.out; have HG := Aside0.mk (Mid.ends (ok13 s) HM13.out hb hkk hfg (by omega) HOK.out he); obtain ⟨a_, c_, hg_⟩ := gone_any he; clear hbe hb hkk he; simp only [gone] at hg_; subst hg_))
                          exact ⟨rfl, HG.out⟩
                      · go_simp
                        refine hK _ _ ?_
                        clear hK K
                        refine wpAny_take (i := 2) (v := .int .i64 (IntKind.i64.wrap (bt s 12 * 256))) rfl (by kernel_rfl) (by kernel_rfl) (by kernel_rfl) (fun _ _ _ h => h) (Or.inl ⟨by rfl, ?_⟩) ?_
                        · intro w_; go_simp
                        refine wpAny_ready (rs := [0, 5]) (by kernel_rfl) (by simp) ?_
                        refine AllReady.cons rfl (fun K hK => ?_) (AllReady.cons rfl (fun K hK => ?_) (AllReady.nil))
                        · go_simp
                          refine hK _ _ ?_
                          clear hK K
                          refine wpAny_ready (rs := [5]) (by kernel_rfl) (by simp) ?_
                          refine AllReady.cons rfl (fun K hK => ?_) (AllReady.nil)
                          · go_simp
                            go_wp2_with (first | (go_at_call 33; refine (byte_54 #[.pointer (some ⟨w13.heap.size, 0, none⟩)] ((decide (bt s ((13 : Nat) : Int) > 0) || decide (bt s 12 > 0))) g s ((13 : Nat) : Int) w0 (w13.alloc (.cells #[.int .i64 (bt s 12)] 3)).drew ?st ?be HPR13 hs (fun _ w1 hw1 => c54 _ _ _ w1 ((cell_of_heap (show w1.heap = (w13.alloc (.cells #[.int .i64 (bt s 12)] 3)).heap from hw1) _).trans ((blk_cell HH.out 0).trans rfl)))).mono ?_; (case st => exact HM13.out.st); (case be => exact qqg); intro e w14 hbe; obtain ⟨he, hb, hkk⟩ := ByteEnd.no hbe HOK.out; have HG := Aside0.mk (Mid.ends (ok13 s) HM13.out hb hkk hfg (by omega) HOK.out he); obtain ⟨a_, c_, hg_⟩ := gone_any he; clear hbe hb hkk he; simp only [gone] at hg_; subst hg_))
                            exact ⟨rfl, HG.out⟩
                        · go_simp
                          go_wp2_with (first | (go_at_call 33; refine (byte_54 #[.pointer (some ⟨w13.heap.size, 0, none⟩)] ((decide (bt s ((13 : Nat) : Int) > 0) || decide (bt s 12 > 0))) g s ((13 : Nat) : Int) w0 (w13.alloc (.cells #[.int .i64 (bt s 12)] 3)).drew ?st ?be HPR13 hs (fun _ w1 hw1 => c54 _ _ _ w1 ((cell_of_heap (show w1.heap = (w13.alloc (.cells #[.int .i64 (bt s 12)] 3)).heap from hw1) _).trans ((blk_cell HH.out 0).trans rfl)))).mono ?_; (case st => exact HM13.out.st); (case be => exact qqg); intro e w14 hbe; obtain ⟨he, hb, hkk⟩ := ByteEnd.no hbe HOK.out; have HG := Aside0.mk (Mid.ends (ok13 s) HM13.out hb hkk hfg (by omega) HOK.out he); obtain ⟨a_, c_, hg_⟩ := gone_any he; clear hbe hb hkk he; simp only [gone] at hg_; subst hg_))
                          exact ⟨rfl, HG.out⟩
                      · go_simp
                        go_wp2_with (first | (go_at_call 33; refine (byte_54 #[.pointer (some ⟨w13.heap.size, 0, none⟩)] ((decide (bt s ((13 : Nat) : Int) > 0) || decide (bt s 12 > 0))) g s ((13 : Nat) : Int) w0 (w13.alloc (.cells #[.int .i64 (bt s 12)] 3)).drew ?st ?be HPR13 hs (fun _ w1 hw1 => c54 _ _ _ w1 ((cell_of_heap (show w1.heap = (w13.alloc (.cells #[.int .i64 (bt s 12)] 3)).heap from hw1) _).trans ((blk_cell HH.out 0).trans rfl)))).mono ?_; (case st => exact HM13.out.st); (case be => exact qqg); intro e w14 hbe; obtain ⟨he, hb, hkk⟩ := ByteEnd.no hbe HOK.out; have HG := Aside0.mk (Mid.ends (ok13 s) HM13.out hb hkk hfg (by omega) HOK.out he); obtain ⟨a_, c_, hg_⟩ := gone_any he; clear hbe hb hkk he; simp only [gone] at hg_; subst hg_))
                        exact ⟨rfl, HG.out⟩
                · have HOK := Aside0.mk hok
                  clear hok
                  go_at_call 33
                  refine (byte_53 #[] (decide (bt s ((12 : Nat) : Int) < 128)) g s ((12 : Nat) : Int) w0 _ ?st ?be HPR12 hs (fun _ w1 _ => c53 _ w1)).mono ?_
                  (case st => exact HM12.out.st)
                  (case be => first | exact HM12.out.be | exact below_drew1 HM12.out.be)
                  intro e w13 hbe
                  obtain ⟨he, hb, hkk⟩ := ByteEnd.no hbe HOK.out
                  have HG := Aside0.mk (Mid.ends (ok12 s) HM12.out hb hkk hfg (by omega) HOK.out he)
                  obtain ⟨a_, c_, hg_⟩ := gone_any he
                  clear hbe hb hkk he
                  simp only [gone] at hg_
                  subst hg_
                  go_wp2_with fail
                  exact ⟨rfl, HG.out⟩
              · have HOK := Aside0.mk hok
                clear hok
                go_at_call 33
                refine (byte_52 #[.pointer (some ⟨w.heap.size, 0, none⟩)] (okN (bt s ((11 : Nat) : Int)) (bt s 9)) g s ((11 : Nat) : Int) w0 _ ?st ?be HPR11 hs (fun _ w1 hw1 => c52 _ _ _ fb w1 ((cell_of_heap hw1 _).trans ((blk_cell HM11.out.bx 0).trans rfl)) ((cell_of_heap hw1 _).trans ((blk_cell HM11.out.fl 0).trans rfl)))).mono ?_
                (case st => exact HM11.out.st)
                (case be => first | exact HM11.out.be | exact below_drew1 HM11.out.be)
                intro e w12 hbe
                obtain ⟨he, hb, hkk⟩ := ByteEnd.no hbe HOK.out
                have HG := Aside0.mk (Mid.ends (ok11 s) HM11.out hb hkk hfg (by omega) HOK.out he)
                obtain ⟨a_, c_, hg_⟩ := gone_any he
                clear hbe hb hkk he
                simp only [gone] at hg_
                subst hg_
                go_wp2_with fail
                exact ⟨rfl, HG.out⟩
            · have HOK := Aside0.mk hok
              clear hok
              go_at_call 33
              refine (byte_50 #[] ((bt s ((10 : Nat) : Int) == 0)) g s ((10 : Nat) : Int) w0 _ ?st ?be HPR10 hs (fun _ w1 _ => c50 _ w1)).mono ?_
              (case st => exact HM10.out.st)
              (case be => first | exact HM10.out.be | exact below_drew1 HM10.out.be)
              intro e w11 hbe
              obtain ⟨he, hb, hkk⟩ := ByteEnd.no hbe HOK.out
              have HG := Aside0.mk (Mid.ends (ok10 s) HM10.out hb hkk hfg (by omega) HOK.out he)
              obtain ⟨a_, c_, hg_⟩ := gone_any he
              clear hbe hb hkk he
              simp only [gone] at hg_
              subst hg_
              go_wp2_with fail
              exact ⟨rfl, HG.out⟩
        · have HOK := Aside0.mk hok
          clear hok
          refine wp_region_any (by kernel_rfl) ?_
          (try (change wpAny _ _ _ _ _ _ _ (World.drew _)))
          refine wpAny_take (i := 1) (v := .pointer (some ⟨g, 0, none⟩)) rfl (by kernel_rfl) (by kernel_rfl) (by kernel_rfl) (fun _ _ _ h => h) (Or.inl ⟨by rfl, ?_⟩) ?_
          · intro w_; go_simp
          refine wpAny_ready (rs := [0, 2]) (by kernel_rfl) (by simp) ?_
          refine AllReady.cons rfl (fun K hK => ?_) (AllReady.cons rfl (fun K hK => ?_) (AllReady.nil))
          · go_simp
            refine hK _ _ ?_
            clear hK K
            refine wpAny_ready (rs := [2]) (by kernel_rfl) (by simp) ?_
            refine AllReady.cons rfl (fun K hK => ?_) (AllReady.nil)
            · go_simp
              go_wp2_with (first | (go_at_call 33; refine (byte_51 #[] (decide (bt s ((9 : Nat) : Int) ≤ 1)) g s ((9 : Nat) : Int) w0 _ ?st ?be HPR9 hs (fun _ w1 _ => c51 _ w1)).mono ?_; (case st => exact HM9.out.st); (case be => first | exact HM9.out.be | exact below_drew1 HM9.out.be); intro e w10 hbe; obtain ⟨he, hb, hkk⟩ := ByteEnd.no hbe HOK.out; have HG := Aside0.mk (Mid.ends (ok9 s) HM9.out hb hkk hfg (by omega) HOK.out he); obtain ⟨a_, c_, hg_⟩ := gone_any he; clear hbe hb hkk he; simp only [gone] at hg_; subst hg_))
              exact ⟨rfl, HG.out⟩
          · go_simp
            go_wp2_with (first | (go_at_call 33; refine (byte_51 #[] (decide (bt s ((9 : Nat) : Int) ≤ 1)) g s ((9 : Nat) : Int) w0 _ ?st ?be HPR9 hs (fun _ w1 _ => c51 _ w1)).mono ?_; (case st => exact HM9.out.st); (case be => first | exact HM9.out.be | exact below_drew1 HM9.out.be); intro e w10 hbe; obtain ⟨he, hb, hkk⟩ := ByteEnd.no hbe HOK.out; have HG := Aside0.mk (Mid.ends (ok9 s) HM9.out hb hkk hfg (by omega) HOK.out he); obtain ⟨a_, c_, hg_⟩ := gone_any he; clear hbe hb hkk he; simp only [gone] at hg_; subst hg_))
            exact ⟨rfl, HG.out⟩
      · have HOK := Aside0.mk hok
        clear hok
        go_at_call 33
        refine (byte_50 #[] ((bt s ((8 : Nat) : Int) == 0)) g s ((8 : Nat) : Int) w0 _ ?st ?be HPR8 hs (fun _ w1 _ => c50 _ w1)).mono ?_
        (case st => exact HM8.out.st)
        (case be => first | exact HM8.out.be | exact below_drew1 HM8.out.be)
        intro e w9 hbe
        obtain ⟨he, hb, hkk⟩ := ByteEnd.no hbe HOK.out
        have HG := Aside0.mk (Mid.ends (ok8 s) HM8.out hb hkk hfg (by omega) HOK.out he)
        obtain ⟨a_, c_, hg_⟩ := gone_any he
        clear hbe hb hkk he
        simp only [gone] at hg_
        subst hg_
        go_wp2_with fail
        exact ⟨rfl, HG.out⟩
end Go.Proofs.YtdmnknhlibaaoaaDoor.M
namespace Go.Proofs.YtdmnknhlibaaoaaDoor.M
open Go.RowKit Go.Proofs.YtdmnknhlibaaoaaDoorW.PrintWords Go.Proofs.YtdmnknhlibaaoaaDoorW.PrintLast Go.Proofs.YtdmnknhlibaaoaaDoorW.PrintMore
set_option linter.unusedVariables false
set_option linter.unusedSimpArgs false
theorem orB_eq {n b : Int} (h0 : 0 ≤ n) (h1 : n < 4294967296) (b0 : 0 ≤ b) (b1 : b < 256) : orB n b = n * 256 + b := by
  have hw : IntKind.i64.wrap (n * 256) = n * 256 := by rw [IntKind.wrap_i64]; omega
  unfold orB
  rw [hw]
  refine bits_join .i64 62 (by decide) (fun m m0 m1 => ?_) 8 (n * 256) b (by omega) ?_ ?_ b0 ?_ ?_
  · rw [IntKind.wrap_i64]
    have : (2 : Int) ^ 62 = 4611686018427387904 := by decide
    omega
  · have : (2 : Int) ^ 8 = 256 := by decide
    omega
  · have : (2 : Int) ^ 62 = 4611686018427387904 := by decide
    omega
  · have : (2 : Int) ^ 8 = 256 := by decide
    omega
  · have : (2 : Int) ^ 62 = 4611686018427387904 := by decide
    omega
def numB (t : ByteArray) : Nat → Int
  | 0 => 0
  | k + 1 => orB (numB t k) (bt t (k : Int))
theorem numB_step {t : ByteArray} {k : Nat} (h0 : 0 ≤ numB t k) (h1 : numB t k < 16777216) : numB t (k + 1) = numB t k * 256 + bt t (k : Int) := by
  have hb := bt_range t (k : Int)
  rw [numB, orB_eq h0 (by omega) hb.1 (by omega)]
theorem numB_range (t : ByteArray) : (0 ≤ numB t 1 ∧ numB t 1 < 256) ∧ (0 ≤ numB t 2 ∧ numB t 2 < 65536) ∧ (0 ≤ numB t 3 ∧ numB t 3 < 16777216) ∧ (0 ≤ numB t 4 ∧ numB t 4 < 4294967296) := by
  have e0 : numB t 0 = 0 := rfl
  have b0 := bt_range t ((0 : Nat) : Int)
  have b1 := bt_range t ((1 : Nat) : Int)
  have b2 := bt_range t ((2 : Nat) : Int)
  have b3 := bt_range t ((3 : Nat) : Int)
  have e1 : numB t 1 = numB t 0 * 256 + bt t ((0 : Nat) : Int) := numB_step (t := t) (k := 0) (by omega) (by omega)
  have e2 : numB t 2 = numB t 1 * 256 + bt t ((1 : Nat) : Int) := numB_step (t := t) (k := 1) (by omega) (by omega)
  have e3 : numB t 3 = numB t 2 * 256 + bt t ((2 : Nat) : Int) := numB_step (t := t) (k := 2) (by omega) (by omega)
  have e4 : numB t 4 = numB t 3 * 256 + bt t ((3 : Nat) : Int) := numB_step (t := t) (k := 3) (by omega) (by omega)
  omega
theorem conv_cell (W : World) (t : ByteArray) (k : Nat) (hk : k < t.size) : (Lib.bytesWorld W 5 t).cell? ⟨W.heap.size, k, none⟩ = some (.int .u8 (bt t (k : Int))) := by
  rw [Lib.bytesWorld_cell W 5 t k hk]
  have hk2 : k < t.data.size := hk
  have : bt t (k : Int) = ((t.data.toList.getD k 0).toNat : Int) := by
    unfold bt
    rw [dif_pos (by simpa using hk)]
    show ((t.data[k]).toNat : Int) = _
    rw [List.getD_eq_getElem?_getD, Array.getElem?_toList, Array.getElem?_eq_getElem hk2]
    rfl
  rw [this]
end Go.Proofs.YtdmnknhlibaaoaaDoor.M
namespace Go.Proofs.YtdmnknhlibaaoaaDoor.M
open Go.RowKit Go.Proofs.YtdmnknhlibaaoaaDoorW.PrintWords Go.Proofs.YtdmnknhlibaaoaaDoorW.PrintLast Go.Proofs.YtdmnknhlibaaoaaDoorW.PrintMore
attribute [local go_sem] max2_int min2_int max_two min_two max_three min_three max_four min_four
set_option linter.unusedVariables false
set_option linter.unusedSimpArgs false
def IsS91 (w0 W : World) (g : Nat) (f0 : ByteArray) (f1 : Int) (f2 : Int) (f3 : Int) : Prop := W.heap[g]? = some (.cells #[.string f0, .int .i64 f1, .int .i64 f2, .int .i64 f3] 91 (0, 0)) ∧ w0.heap.size ≤ g
theorem IsS91.grown {w0 W : World} {g : Nat} {f0 : ByteArray} {f1 : Int} {f2 : Int} {f3 : Int} {W1 : World} {row : Option Nat} (h : IsS91 w0 W g f0 f1 f2 f3) (hw : W.grownBy W1 row) (hne : some g ≠ row) : IsS91 w0 W1 g f0 f1 f2 f3 := by
  obtain ⟨hb, hg⟩ := h
  exact ⟨blk_grown hb hw hne, hg⟩
theorem IsS91.kept {w0 W : World} {g : Nat} {f0 : ByteArray} {f1 : Int} {f2 : Int} {f3 : Int} {W1 : World} {S : Nat → Prop} (h : IsS91 w0 W g f0 f1 f2 f3) (hk : Kept W W1 S) (hne : ¬ S g) : IsS91 w0 W1 g f0 f1 f2 f3 := by
  obtain ⟨hb, hg⟩ := h
  exact ⟨blk_kept hb hk hne, hg⟩
theorem IsS91.below {w0 W : World} {g : Nat} {f0 : ByteArray} {f1 : Int} {f2 : Int} {f3 : Int} {W1 : World} (h : IsS91 w0 W g f0 f1 f2 f3) (hw : Below W.heap.size W W1) : IsS91 w0 W1 g f0 f1 f2 f3 := h.grown (grown_of_below hw none) (by simp)
theorem IsS91.alloc {w0 W : World} {g : Nat} {f0 : ByteArray} {f1 : Int} {f2 : Int} {f3 : Int} (h : IsS91 w0 W g f0 f1 f2 f3) (o : Obj) : IsS91 w0 (W.alloc o) g f0 f1 f2 f3 := h.below (below_alloc (Below.refl _ _) o)
theorem IsS91.drewN {w0 W : World} {g : Nat} {f0 : ByteArray} {f1 : Int} {f2 : Int} {f3 : Int} (h : IsS91 w0 W g f0 f1 f2 f3) (m : Nat) : IsS91 w0 (W.drewN m) g f0 f1 f2 f3 := h
theorem IsS91.drew {w0 W : World} {g : Nat} {f0 : ByteArray} {f1 : Int} {f2 : Int} {f3 : Int} (h : IsS91 w0 W g f0 f1 f2 f3) : IsS91 w0 W.drew g f0 f1 f2 f3 := h
theorem IsS91.at_ {w0 W : World} {g : Nat} {f0 : ByteArray} {f1 : Int} {f2 : Int} {f3 : Int} {w' : World} {m : Nat} (hq : W.drewN m = w') (h : IsS91 w0 W g f0 f1 f2 f3) : IsS91 w0 w' g f0 f1 f2 f3 := by subst hq; exact IsS91.drewN h m
theorem IsS91.apart {w0 W : World} {g : Nat} {f0 : ByteArray} {f1 : Int} {f2 : Int} {f3 : Int} {α : Type} {d : Kd α} {e : Nat} {base : Nat} {ok : Nat → Prop} {v : Value} {xs : List α} (h : IsS91 w0 W g f0 f1 f2 f3) (ho : d.R e W base ok v xs) (ht : ∀ q, q ∈ e :: d.E → q ≠ 91) : d.R e W base (fun k => ok k ∧ k ≠ g) v xs := by
  obtain ⟨hb, hg⟩ := h
  exact Kd.R_types ho hb ht
theorem IsS91.own_ne {w0 W : World} {g : Nat} {f0 : ByteArray} {f1 : Int} {f2 : Int} {f3 : Int} {α : Type} {d : Kd α} {e : Nat} {base : Nat} {ok : Nat → Prop} {v : Value} {xs : List α} (h : IsS91 w0 W g f0 f1 f2 f3) (ho : d.R e W base ok v xs) (ht : e ≠ 91) : some g ≠ v.ownBlock := by
  obtain ⟨hb, hg⟩ := h
  exact Kd.R_ne ho hb ht
theorem IsS91.lt {w0 W : World} {g : Nat} {f0 : ByteArray} {f1 : Int} {f2 : Int} {f3 : Int} (h : IsS91 w0 W g f0 f1 f2 f3) : g < W.heap.size := by
  obtain ⟨hb, hg⟩ := h
  exact blk_lt hb
theorem IsS91.ge {w0 W : World} {g : Nat} {f0 : ByteArray} {f1 : Int} {f2 : Int} {f3 : Int} (h : IsS91 w0 W g f0 f1 f2 f3) : w0.heap.size ≤ g := by
  obtain ⟨hb, hg⟩ := h
  exact hg
theorem IsS91.ne_blk {w0 W : World} {g : Nat} {f0 : ByteArray} {f1 : Int} {f2 : Int} {f3 : Int} {a : Nat} {cs : Array Value} {t : TypeId} {fr : Nat × Nat} (h : IsS91 w0 W g f0 f1 f2 f3) (hb2 : W.heap[a]? = some (.cells cs t fr)) (ht : t ≠ 91) : g ≠ a := by
  obtain ⟨hb, hg⟩ := h
  rintro rfl
  rw [hb] at hb2
  injection hb2 with hb2
  injection hb2 with _ ht2
  exact ht ht2.symm
theorem IsS91.far {w0 W : World} {g : Nat} {f0 : ByteArray} {f1 : Int} {f2 : Int} {f3 : Int} {p : Addr} (h : IsS91 w0 W g f0 f1 f2 f3) (hne : g ≠ p.block) (u : Value) : IsS91 w0 (W.setCell p u) g f0 f1 f2 f3 := by
  obtain ⟨hb, hg⟩ := h
  exact ⟨blk_far hb hne u, hg⟩
theorem cellS91_0 {W : World} {g : Nat} {f0 : ByteArray} {f1 : Int} {f2 : Int} {f3 : Int} (h : W.heap[g]? = some (.cells #[.string f0, .int .i64 f1, .int .i64 f2, .int .i64 f3] 91 (0, 0))) : W.cell? ⟨g, 0, none⟩ = some (.string f0) := (blk_cell h 0).trans rfl
theorem IsS91.set_0 {w0 W : World} {g : Nat} {f0 : ByteArray} {f1 : Int} {f2 : Int} {f3 : Int} (h : IsS91 w0 W g f0 f1 f2 f3) (x : ByteArray) : IsS91 w0 (W.setCell ⟨g, 0, none⟩ (.string x)) g x f1 f2 f3 := by
  obtain ⟨hb, hg⟩ := h
  exact ⟨by simpa using blk_set hb 0 (.string x), hg⟩
theorem cellS91_1 {W : World} {g : Nat} {f0 : ByteArray} {f1 : Int} {f2 : Int} {f3 : Int} (h : W.heap[g]? = some (.cells #[.string f0, .int .i64 f1, .int .i64 f2, .int .i64 f3] 91 (0, 0))) : W.cell? ⟨g, 1, none⟩ = some (.int .i64 f1) := (blk_cell h 1).trans rfl
theorem IsS91.set_1 {w0 W : World} {g : Nat} {f0 : ByteArray} {f1 : Int} {f2 : Int} {f3 : Int} (h : IsS91 w0 W g f0 f1 f2 f3) (x : Int) : IsS91 w0 (W.setCell ⟨g, 1, none⟩ (.int .i64 x)) g f0 x f2 f3 := by
  obtain ⟨hb, hg⟩ := h
  exact ⟨by simpa using blk_set hb 1 (.int .i64 x), hg⟩
theorem cellS91_2 {W : World} {g : Nat} {f0 : ByteArray} {f1 : Int} {f2 : Int} {f3 : Int} (h : W.heap[g]? = some (.cells #[.string f0, .int .i64 f1, .int .i64 f2, .int .i64 f3] 91 (0, 0))) : W.cell? ⟨g, 2, none⟩ = some (.int .i64 f2) := (blk_cell h 2).trans rfl
theorem IsS91.set_2 {w0 W : World} {g : Nat} {f0 : ByteArray} {f1 : Int} {f2 : Int} {f3 : Int} (h : IsS91 w0 W g f0 f1 f2 f3) (x : Int) : IsS91 w0 (W.setCell ⟨g, 2, none⟩ (.int .i64 x)) g f0 f1 x f3 := by
  obtain ⟨hb, hg⟩ := h
  exact ⟨by simpa using blk_set hb 2 (.int .i64 x), hg⟩
theorem cellS91_3 {W : World} {g : Nat} {f0 : ByteArray} {f1 : Int} {f2 : Int} {f3 : Int} (h : W.heap[g]? = some (.cells #[.string f0, .int .i64 f1, .int .i64 f2, .int .i64 f3] 91 (0, 0))) : W.cell? ⟨g, 3, none⟩ = some (.int .i64 f3) := (blk_cell h 3).trans rfl
theorem IsS91.set_3 {w0 W : World} {g : Nat} {f0 : ByteArray} {f1 : Int} {f2 : Int} {f3 : Int} (h : IsS91 w0 W g f0 f1 f2 f3) (x : Int) : IsS91 w0 (W.setCell ⟨g, 3, none⟩ (.int .i64 x)) g f0 f1 f2 x := by
  obtain ⟨hb, hg⟩ := h
  exact ⟨by simpa using blk_set hb 3 (.int .i64 x), hg⟩
theorem IsS91.new (w0 W : World) (f0 : ByteArray) (f1 : Int) (f2 : Int) (f3 : Int) (hB : Below w0.heap.size w0 W) : IsS91 w0 (W.alloc (.cells #[.string f0, .int .i64 f1, .int .i64 f2, .int .i64 f3] 91)) W.heap.size f0 f1 f2 f3 := ⟨by simpa using heap_alloc_new W _, hB.size⟩
def wire_reader_fail.f (s0_0 : ByteArray) (s0_1 : Int) (s0_2 : Int) (s0_3 : Int) (a1 : Int) : Option (ByteArray × Int × Int × Int) := if s0_3 = 0 then (some (s0_0, s0_1, s0_2, a1)) else (some (s0_0, s0_1, s0_2, s0_3))
set_option maxHeartbeats 8000000 in
set_option maxRecDepth 100000 in
theorem wire_reader_fail.calls (g : Nat) (s0_0 : ByteArray) (s0_1 : Int) (s0_2 : Int) (s0_3 : Int) (a1 : Int) (r1 : ByteArray) (r2 : Int) (r3 : Int) (r4 : Int) (w0 w : World) (hI : IsS91 w0 w g s0_0 s0_1 s0_2 s0_3) (hB : Below w0.heap.size w0 w) (h : wire_reader_fail.f s0_0 s0_1 s0_2 s0_3 a1 = some (r1, r2, r3, r4)) :
    Calls Tryd.prog 55 #[.pointer (some ⟨g, 0, none⟩), .int .i64 a1] w fun e w' => e = .returned (.tuple #[]) ∧ IsS91 w0 w' g r1 r2 r3 r4 ∧ Below w0.heap.size w0 w' ∧ KeepBut w w' g none := by
  have HI0 := Aside0.mk hI
  have HK := Aside0.mk (KeepBut.refl w g none)
  have HL := Aside0.mk hB.size
  clear hI
  have HW0 := Aside0.mk hB.size
  have HB := Aside0.mk hB
  clear hB
  have H := h
  unfold wire_reader_fail.f at H
  clear h
  by_cases c3 : s0_3 = 0
  rotate_left
  · rw [if_neg c3] at H
    have c3b0 : (s0_3 == 0) = false := beq_eq_false_iff_ne.mpr c3
    have c3b1 : (s0_3 != 0) = true := bne_iff_ne.mpr c3
    simp only [Option.some.injEq, Prod.mk.injEq] at H
    obtain ⟨rfl, rfl, rfl, rfl⟩ := H
    obtain ⟨HGz5, hgz5⟩ := HI0.out
    have hcz5_0 := cellS91_0 HGz5
    have hcz5_1 := cellS91_1 HGz5
    have hcz5_2 := cellS91_2 HGz5
    have hcz5_3 := cellS91_3 HGz5
    have hfz5_0 := blk_frozen HGz5 0
    have hfz5_1 := blk_frozen HGz5 1
    have hfz5_2 := blk_frozen HGz5 2
    have hfz5_3 := blk_frozen HGz5 3
    clear HGz5 hgz5
    go_enter Tryd.func55, Tryd.ntmps55
    go_wp2
    first | go_end0 | ((try simp only [Exit.inBlock, Exit.then]); refine bodyPost_ret (results_none rfl _ _ _) rfl ?_)
    exact ⟨qq4, qq1, by repeat (first | (with_reducible first | exact HB.out | apply below_alloc | apply pw_below_drewN | apply below_drew1 | refine below_set ?_ (IsS91.ge HI0.out)) | exact HB.out), qq2⟩
  rw [if_pos c3] at H
  have c3b0 : (s0_3 == 0) = true := beq_iff_eq.mpr c3
  have c3b1 : (s0_3 != 0) = false := bne_eq_false_iff_eq.mpr c3
  clear c3
  simp only [Option.some.injEq, Prod.mk.injEq] at H
  obtain ⟨rfl, rfl, rfl, rfl⟩ := H
  obtain ⟨HGz4, hgz4⟩ := HI0.out
  have hcz4_0 := cellS91_0 HGz4
  have hcz4_1 := cellS91_1 HGz4
  have hcz4_2 := cellS91_2 HGz4
  have hcz4_3 := cellS91_3 HGz4
  have hfz4_0 := blk_frozen HGz4 0
  have hfz4_1 := blk_frozen HGz4 1
  have hfz4_2 := blk_frozen HGz4 2
  have hfz4_3 := blk_frozen HGz4 3
  clear HGz4 hgz4
  go_enter Tryd.func55, Tryd.ntmps55
  go_wp2
  first | go_end0 | ((try simp only [Exit.inBlock, Exit.then]); refine bodyPost_ret (results_none rfl _ _ _) rfl ?_)
  exact ⟨qq4, qq1, by repeat (first | (with_reducible first | exact HB.out | apply below_alloc | apply pw_below_drewN | apply below_drew1 | refine below_set ?_ (IsS91.ge HI0.out)) | exact HB.out), qq2⟩
end Go.Proofs.YtdmnknhlibaaoaaDoor.M
