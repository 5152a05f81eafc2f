/- Functions and contracts printed by a program of this session (wip/tools), and texts by hand: Print, Parse, and the plain answers (part 3). -/
import Derived.Test.YtendmmagjjhfnaaCW
import Derived.Test.YtendmmagjjhfnaaC1
import Derived.Test.YtendmmagjjhfnaaC2
namespace Go.Proofs.Ytendmmagjjhfnaa.M
open Go.RowKit Go.Proofs.YtendmmagjjhfnaaW.PrintWords Go.Proofs.YtendmmagjjhfnaaW.PrintLast Go.Proofs.YtendmmagjjhfnaaW.PrintMore
attribute [local go_sem] max2_int min2_int max_two min_two max_three min_three max_four min_four
set_option linter.unusedVariables false
set_option linter.unusedSimpArgs false
mutual
def partitaref10_seen.l0 : Nat → List (S38) → Int → Int → Int → Int → Bool → Bool → Option (Int × Int × Int × Bool × Bool)
  | 0, _, _, _, _, _, _, _ => none
  | k + 1, x0, x4, x103000, x103001, x103002, x103003, x103004 => if x4 < (x0.length : Int) then (if 0 ≤ x4 then (if (rd_T38 x0 x4).f3 = true then (partitaref10_seen.j1 k x0 x4 x4 x103001 x103002 x103003 x103004) else (partitaref10_seen.j1 k x0 x4 x103000 x103001 x103002 x103003 x103004)) else (none)) else (some (x103000, x103001, x103002, x103003, x103004))
def partitaref10_seen.j4 : Nat → List (S38) → Int → Int → Int → Int → Bool → Bool → Option (Int × Int × Int × Bool × Bool)
  | 0, _, _, _, _, _, _, _ => none
  | k + 1, x0, x4, x103000, x103001, x103002, x103003, x103004 => partitaref10_seen.l0 k x0 (wrap64 (x4 + 1)) x103000 x103001 x103002 x103003 x103004
def partitaref10_seen.j1 : Nat → List (S38) → Int → Int → Int → Int → Bool → Bool → Option (Int × Int × Int × Bool × Bool)
  | 0, _, _, _, _, _, _, _ => none
  | k + 1, x0, x4, x103000, x103001, x103002, x103003, x103004 => if 0 ≤ x4 then (if x4 < (x0.length : Int) then (if (rd_T38 x0 x4).f4 = true then (partitaref10_seen.j2 k x0 x4 x103000 x4 x103002 x103003 x103004) else (partitaref10_seen.j2 k x0 x4 x103000 x103001 x103002 x103003 x103004)) else (none)) else (none)
def partitaref10_seen.j2 : Nat → List (S38) → Int → Int → Int → Int → Bool → Bool → Option (Int × Int × Int × Bool × Bool)
  | 0, _, _, _, _, _, _, _ => none
  | k + 1, x0, x4, x103000, x103001, x103002, x103003, x103004 => if 0 ≤ x4 then (if x4 < (x0.length : Int) then (if ((rd_T38 x0 x4).f7) = 0 then (partitaref10_seen.j3 k x0 x4 x103000 x103001 x103002 x103003 x103004) else (partitaref10_seen.j3 k x0 x4 x103000 x103001 x4 x103003 x103004)) else (none)) else (none)
def partitaref10_seen.j3 : Nat → List (S38) → Int → Int → Int → Int → Bool → Bool → Option (Int × Int × Int × Bool × Bool)
  | 0, _, _, _, _, _, _, _ => none
  | k + 1, x0, x4, x103000, x103001, x103002, x103003, x103004 => if x103003 = true then (if x103004 = true then (partitaref10_seen.j4 k x0 x4 x103000 x103001 x103002 true true) else (if 0 ≤ x4 then (if x4 < (x0.length : Int) then (partitaref10_seen.j4 k x0 x4 x103000 x103001 x103002 true ((rd_T38 x0 x4).f5)) else (none)) else (none))) else (if 0 ≤ x4 then (if x4 < (x0.length : Int) then (if x103004 = true then (partitaref10_seen.j4 k x0 x4 x103000 x103001 x103002 ((rd_T38 x0 x4).f6) true) else (partitaref10_seen.j4 k x0 x4 x103000 x103001 x103002 ((rd_T38 x0 x4).f6) ((rd_T38 x0 x4).f5))) else (none)) else (none))
end
def partitaref10_seen.f (k : Nat) (l0 : List (S38)) : Option (Int × Int × Int × Bool × Bool) := partitaref10_seen.l0 k l0 0 (-1) (-1) (-1) false false
theorem partitaref10_seen.mono_l : ∀ k, (∀ y0 y1 y2 y3 y4 y5 y6, LeO (partitaref10_seen.l0 k y0 y1 y2 y3 y4 y5 y6) (partitaref10_seen.l0 (k + 1) y0 y1 y2 y3 y4 y5 y6)) ∧ (∀ y0 y1 y2 y3 y4 y5 y6, LeO (partitaref10_seen.j4 k y0 y1 y2 y3 y4 y5 y6) (partitaref10_seen.j4 (k + 1) y0 y1 y2 y3 y4 y5 y6)) ∧ (∀ y0 y1 y2 y3 y4 y5 y6, LeO (partitaref10_seen.j1 k y0 y1 y2 y3 y4 y5 y6) (partitaref10_seen.j1 (k + 1) y0 y1 y2 y3 y4 y5 y6)) ∧ (∀ y0 y1 y2 y3 y4 y5 y6, LeO (partitaref10_seen.j2 k y0 y1 y2 y3 y4 y5 y6) (partitaref10_seen.j2 (k + 1) y0 y1 y2 y3 y4 y5 y6)) ∧ (∀ y0 y1 y2 y3 y4 y5 y6, LeO (partitaref10_seen.j3 k y0 y1 y2 y3 y4 y5 y6) (partitaref10_seen.j3 (k + 1) y0 y1 y2 y3 y4 y5 y6))
  | 0 => ⟨fun _ _ _ _ _ _ _ r h => by simp [partitaref10_seen.l0] at h, fun _ _ _ _ _ _ _ r h => by simp [partitaref10_seen.j4] at h, fun _ _ _ _ _ _ _ r h => by simp [partitaref10_seen.j1] at h, fun _ _ _ _ _ _ _ r h => by simp [partitaref10_seen.j2] at h, fun _ _ _ _ _ _ _ r h => by simp [partitaref10_seen.j3] at h⟩
  | k + 1 => by
    obtain ⟨ih0, ih1, ih2, ih3, ih4⟩ := partitaref10_seen.mono_l k
    refine ⟨?_, ?_, ?_, ?_, ?_⟩
    · intro y0 y1 y2 y3 y4 y5 y6
      unfold partitaref10_seen.l0
      repeat' first
      | (with_reducible exact ih2 _ _ _ _ _ _ _)
      | (with_reducible exact LeO.refl _)
      | (with_reducible refine LeO.ite ?_ ?_)
    · intro y0 y1 y2 y3 y4 y5 y6
      unfold partitaref10_seen.j4
      repeat' first
      | (with_reducible exact ih0 _ _ _ _ _ _ _)
    · intro y0 y1 y2 y3 y4 y5 y6
      unfold partitaref10_seen.j1
      repeat' first
      | (with_reducible exact ih3 _ _ _ _ _ _ _)
      | (with_reducible exact LeO.refl _)
      | (with_reducible refine LeO.ite ?_ ?_)
    · intro y0 y1 y2 y3 y4 y5 y6
      unfold partitaref10_seen.j2
      repeat' first
      | (with_reducible exact ih4 _ _ _ _ _ _ _)
      | (with_reducible exact LeO.refl _)
      | (with_reducible refine LeO.ite ?_ ?_)
    · intro y0 y1 y2 y3 y4 y5 y6
      unfold partitaref10_seen.j3
      repeat' first
      | (with_reducible exact ih1 _ _ _ _ _ _ _)
      | (with_reducible exact LeO.refl _)
      | (with_reducible refine LeO.ite ?_ ?_)
theorem partitaref10_seen.mono : ∀ a0 k, LeO (partitaref10_seen.f k a0) (partitaref10_seen.f (k + 1) a0) := by
  intro a0 k
  obtain ⟨ih0, ih1, ih2, ih3, ih4⟩ := partitaref10_seen.mono_l k
  unfold partitaref10_seen.f
  repeat' first
      | (with_reducible exact ih0 _ _ _ _ _ _ _)
set_option maxHeartbeats 8000000 in
set_option maxRecDepth 100000 in
theorem partitaref10_seen.calls (k : Nat) (A0 : Option Addr) (c0 : Nat) (l0 : List (S38)) (r1 : Int) (r2 : Int) (r3 : Int) (r4 : Bool) (r5 : Bool) (w : World) (hr0 : Kd.C k38 w A0 l0.length l0) (hc0 : l0.length ≤ c0) (h : partitaref10_seen.f k l0 = some (r1, r2, r3, r4, r5)) :
    Calls Try.prog 32 #[.slice A0 l0.length c0] w fun e w' => e = .returned (.agg #[.int .i64 r1, .int .i64 r2, .int .i64 r3, .bool r4, .bool r5]) ∧ Below w.heap.size w w' := by
  have hu55 := Try.underlying55
  have HR0 := Aside0.mk hr0
  have HC0 := Aside0.mk hc0
  clear hr0 hc0
  have HB := Aside0.mk (Below.refl w.heap.size w)
  have H := h
  unfold partitaref10_seen.f at H
  clear h
  have H' := Aside0.mk H
  clear H
  go_enter Try.func32, Try.ntmps32
  go_wp2_with (first | ((with_reducible refine gate_dst (N := 2) rfl ?_); refine box_event ?hg (N := 2) ?hd (cs := #[.int .i64 0, .int .i64 0, .int .i64 0, .bool false, .bool false]) (t := 55) ?hr ?_; (case hd => rfl); (case hg => rfl); (case hr => exact qqJ); intro gb101 hg w2 hbox hb; have BK101 := Aside0.mk (hbox); have GW101 := Aside0.mk ((qqg : w.heap.size ≤ gb101)); have GE101 := Aside0.mk ((qqg : w.heap.size ≤ gb101)); replace HB := Aside0.mk (below_step (qB HB.out) hb); clear hb hbox hg) | ((with_reducible refine gate_dst (N := 3) rfl ?_); refine box_event ?hg (N := 3) ?hd (cs := #[.int .i64 0, .int .i64 0, .int .i64 0, .bool false, .bool false]) (t := 55) ?hr ?_; (case hd => rfl); (case hg => rfl); (case hr => exact qqJ); intro gb102 hg w3 hbox hb; have BK102 := Aside0.mk (hbox); have GW102 := Aside0.mk ((qqU : w.heap.size ≤ gb102)); have GE102 := Aside0.mk ((qqU : w.heap.size ≤ gb102)); replace HB := Aside0.mk (below_step (qS1 GE101 HB.out) hb); have NB101_102 := Aside0.mk ((qqQ : gb101 ≠ gb102)); have NB102_101 := Aside0.mk ((qqR : gb102 ≠ gb101)); replace BK101 := Aside0.mk (blk_below (bq BK101.out) hb); clear hb hbox hg; have hnb4 := NB102_101.out; have hnc4 := NB101_102.out; have hz5 := cells5 BK102.out))
  go_loopg [4] k (fun kq v4 w' => ∃ (x4_1 : Int) (x103000_1 : Int) (x103001_1 : Int) (x103002_1 : Int) (x103003_1 : Bool) (x103004_1 : Bool), v4 = .int .i64 x4_1 ∧ Aside0 (partitaref10_seen.l0 kq l0 x4_1 x103000_1 x103001_1 x103002_1 x103003_1 x103004_1 = some (r1, r2, r3, r4, r5)) ∧ Aside0 (kq ≤ k) ∧ Aside0 (w'.heap[gb101]? = some (.cells #[.int .i64 0, .int .i64 0, .int .i64 0, .bool false, .bool false] 55 (0, 0))) ∧ Aside0 (w'.heap[gb102]? = some (.cells #[.int .i64 x103000_1, .int .i64 x103001_1, .int .i64 x103002_1, .bool x103003_1, .bool x103004_1] 55 (0, 0))) ∧ Aside0 (Below w.heap.size w w'))
  case atStart => exact ⟨(0), ((-1)), ((-1)), ((-1)), (false), (false), (by first | rfl), H', ⟨Nat.le_refl _⟩, ⟨by (with_reducible repeat (first | refine blk_drewN ?_ _ | refine blk_drew ?_ | refine blk_alloc ?_ _)); refine blk_far ?_ NB101_102.out _; (with_reducible repeat (first | refine blk_drewN ?_ _ | refine blk_drew ?_ | refine blk_alloc ?_ _)); refine blk_far ?_ NB101_102.out _; (with_reducible repeat (first | refine blk_drewN ?_ _ | refine blk_drew ?_ | refine blk_alloc ?_ _)); refine blk_far ?_ NB101_102.out _; (with_reducible repeat (first | refine blk_drewN ?_ _ | refine blk_drew ?_ | refine blk_alloc ?_ _)); refine blk_far ?_ NB101_102.out _; (with_reducible repeat (first | refine blk_drewN ?_ _ | refine blk_drew ?_ | refine blk_alloc ?_ _)); refine blk_far ?_ NB101_102.out _; (with_reducible repeat (first | refine blk_drewN ?_ _ | refine blk_drew ?_ | refine blk_alloc ?_ _)); exact BK101.out⟩, ⟨by (with_reducible repeat (first | refine blk_drewN ?_ _ | refine blk_drew ?_ | refine blk_alloc ?_ _)); refine blk_put (cs := #[.int .i64 (-1), .int .i64 (-1), .int .i64 (-1), .bool false, .bool false]) ?_ 4 _ rfl; (with_reducible repeat (first | refine blk_drewN ?_ _ | refine blk_drew ?_ | refine blk_alloc ?_ _)); refine blk_put (cs := #[.int .i64 (-1), .int .i64 (-1), .int .i64 (-1), .bool false, .bool false]) ?_ 3 _ rfl; (with_reducible repeat (first | refine blk_drewN ?_ _ | refine blk_drew ?_ | refine blk_alloc ?_ _)); refine blk_put (cs := #[.int .i64 (-1), .int .i64 (-1), .int .i64 0, .bool false, .bool false]) ?_ 2 _ rfl; (with_reducible repeat (first | refine blk_drewN ?_ _ | refine blk_drew ?_ | refine blk_alloc ?_ _)); refine blk_put (cs := #[.int .i64 (-1), .int .i64 0, .int .i64 0, .bool false, .bool false]) ?_ 1 _ rfl; (with_reducible repeat (first | refine blk_drewN ?_ _ | refine blk_drew ?_ | refine blk_alloc ?_ _)); refine blk_put (cs := #[.int .i64 0, .int .i64 0, .int .i64 0, .bool false, .bool false]) ?_ 0 _ rfl; (with_reducible repeat (first | refine blk_drewN ?_ _ | refine blk_drew ?_ | refine blk_alloc ?_ _)); exact BK102.out⟩, ⟨qS2 GE101 GE102 HB.out⟩⟩
  case round =>
    clear H'
    obtain ⟨x4_1, x103000_1, x103001_1, x103002_1, x103003_1, x103004_1, rfl, HA, HK1, BK101, BK102, HB⟩ := hrel
    cases gk with
    | zero => exact absurd HA.out (by simp [partitaref10_seen.l0])
    | succ k1 =>
      have H := HA.out
      clear HA
      simp only [partitaref10_seen.l0] at H
      by_cases c6 : x4_1 < (l0.length : Int)
      rotate_left
      · rw [if_neg c6] at H
        have c6b0 : decide (x4_1 < (l0.length : Int)) = false := decide_eq_false c6
        clear c6
        simp only [Option.some.injEq, Prod.mk.injEq] at H
        obtain ⟨rfl, rfl, rfl, rfl, rfl⟩ := H
        have hnb42 := NB102_101.out
        have hnc42 := NB101_102.out
        have hz43 := cells5 BK102.out
        have hz44 := cells5 BK101.out
        go_wp2
        refine bodyPost_ret (results_cell_row rfl _ _ gb101 55 #[.int .i64 x103000_1, .int .i64 x103001_1, .int .i64 x103002_1, .bool x103003_1, .bool x103004_1] (0, 0) _ rfl (by refine bq ?_; refine blk_put (cs := #[.int .i64 x103000_1, .int .i64 x103001_1, .int .i64 x103002_1, .bool x103003_1, .bool false]) ?_ 4 _ rfl; refine bq ?_; refine blk_put (cs := #[.int .i64 x103000_1, .int .i64 x103001_1, .int .i64 x103002_1, .bool false, .bool false]) ?_ 3 _ rfl; refine bq ?_; refine blk_put (cs := #[.int .i64 x103000_1, .int .i64 x103001_1, .int .i64 0, .bool false, .bool false]) ?_ 2 _ rfl; refine bq ?_; refine blk_put (cs := #[.int .i64 x103000_1, .int .i64 0, .int .i64 0, .bool false, .bool false]) ?_ 1 _ rfl; refine bq ?_; refine blk_put (cs := #[.int .i64 0, .int .i64 0, .int .i64 0, .bool false, .bool false]) ?_ 0 _ rfl; exact bq BK101.out) Try.underlying55 rfl (by kernel_rfl)) rfl ?_
        exact ⟨by first | rfl, qS2 GE101 GE102 HB.out⟩
      rw [if_pos c6] at H
      have c6b0 : decide (x4_1 < (l0.length : Int)) = true := decide_eq_true c6
      clear c6
      have HC7 := Aside0.mk H
      clear H
      go_upto_block 1 with (fail)
      go_cut [] (fun wc => ∃ (kq : Nat) (x103000_6 : Int) (x103001_6 : Int) (x103002_6 : Int) (x103003_6 : Bool) (x103004_6 : Bool), Aside0 (partitaref10_seen.j4 kq l0 x4_1 x103000_6 x103001_6 x103002_6 x103003_6 x103004_6 = some (r1, r2, r3, r4, r5)) ∧ Aside0 (kq ≤ k1) ∧ Aside0 (wc.heap[gb101]? = some (.cells #[.int .i64 0, .int .i64 0, .int .i64 0, .bool false, .bool false] 55 (0, 0))) ∧ Aside0 (wc.heap[gb102]? = some (.cells #[.int .i64 x103000_6, .int .i64 x103001_6, .int .i64 x103002_6, .bool x103003_6, .bool x103004_6] 55 (0, 0))) ∧ Aside0 (Below w.heap.size w wc))
      case first =>
        have H := HC7.out
        clear HC7
        by_cases c8 : 0 ≤ x4_1
        rotate_left
        · rw [if_neg c8] at H
          exact absurd H (by simp)
        rw [if_pos c8] at H
        have c8b0 : decide (0 ≤ x4_1) = true := decide_eq_true c8
        clear c8
        (first | skip)
        have HC9 := Aside0.mk H
        clear H
        have p103 : 0 ≤ (x4_1 : Int) := of_decide_eq_true qqp
        have q103 : x4_1 < (l0.length : Int) := of_decide_eq_true qqp
        obtain ⟨ad103, A103_2, c103_2, e103, hx103_0, hx103_1, hx103_2, hx103_3, hx103_4, hx103_5, hx103_6, hx103_7, hl103_2, hi103_2⟩ := at_T38 HR0.out x4_1 p103 q103
        cases e103
        replace hx103_0 := (HB.out.cell (World.block_lt_of_cell? w _ hx103_0)).trans hx103_0
        replace hx103_1 := (HB.out.cell (World.block_lt_of_cell? w _ hx103_1)).trans hx103_1
        replace hx103_2 := (HB.out.cell (World.block_lt_of_cell? w _ hx103_2)).trans hx103_2
        replace hx103_3 := (HB.out.cell (World.block_lt_of_cell? w _ hx103_3)).trans hx103_3
        replace hx103_4 := (HB.out.cell (World.block_lt_of_cell? w _ hx103_4)).trans hx103_4
        replace hx103_5 := (HB.out.cell (World.block_lt_of_cell? w _ hx103_5)).trans hx103_5
        replace hx103_6 := (HB.out.cell (World.block_lt_of_cell? w _ hx103_6)).trans hx103_6
        replace hx103_7 := (HB.out.cell (World.block_lt_of_cell? w _ hx103_7)).trans hx103_7
        have HR103_2 := Aside0.mk hi103_2
        have HC103_2 := Aside0.mk hl103_2
        clear hi103_2 hl103_2
        replace p103 := eq_true p103
        replace q103 := eq_true q103
        go_upto_if 16 with (fail)
        go_cut [] (fun wc => ∃ (kq : Nat) (x103000_8 : Int), Aside0 (partitaref10_seen.j1 kq l0 x4_1 x103000_8 x103001_1 x103002_1 x103003_1 x103004_1 = some (r1, r2, r3, r4, r5)) ∧ Aside0 (kq ≤ k1) ∧ Aside0 (wc.heap[gb101]? = some (.cells #[.int .i64 0, .int .i64 0, .int .i64 0, .bool false, .bool false] 55 (0, 0))) ∧ Aside0 (wc.heap[gb102]? = some (.cells #[.int .i64 x103000_8, .int .i64 x103001_1, .int .i64 x103002_1, .bool x103003_1, .bool x103004_1] 55 (0, 0))) ∧ Aside0 (Below w.heap.size w wc))
        case first =>
          have H := HC9.out
          clear HC9
          obtain ⟨bq10, hbq10⟩ : ∃ b_ : Bool, b_ = ((rd_T38 l0 x4_1).f3) := ⟨_, rfl⟩
          replace H : (if bq10 = true then (partitaref10_seen.j1 k1 l0 x4_1 x4_1 x103001_1 x103002_1 x103003_1 x103004_1) else (partitaref10_seen.j1 k1 l0 x4_1 x103000_1 x103001_1 x103002_1 x103003_1 x103004_1)) = some (r1, r2, r3, r4, r5) := by rw [← hbq10] at H; exact H
          have Nbq10 := Aside0.mk hbq10
          clear hbq10
          (try rw [← Nbq10.out])
          by_cases c11 : bq10 = true
          rotate_left
          · replace c11 := Bool.eq_false_iff.mpr c11
            subst c11
            have H1 : (partitaref10_seen.j1 k1 l0 x4_1 x103000_1 x103001_1 x103002_1 x103003_1 x103004_1) = some (r1, r2, r3, r4, r5) := by rw [if_neg (show ¬ (false = true) by decide)] at H; exact H
            clear H
            have H := H1
            clear H1
            have H' := Aside0.mk H
            clear H
            go_wp2
            go_meet
            case rel => exact ⟨_, (x103000_1), H', ⟨qqf⟩, ⟨bq BK101.out⟩, ⟨bq BK102.out⟩, ⟨qS2 GE101 GE102 HB.out⟩⟩
          subst c11
          have H1 : (partitaref10_seen.j1 k1 l0 x4_1 x4_1 x103001_1 x103002_1 x103003_1 x103004_1) = some (r1, r2, r3, r4, r5) := by rw [if_pos rfl] at H; exact H
          clear H
          have H := H1
          clear H1
          have H' := Aside0.mk H
          clear H
          have hnb12 := NB102_101.out
          have hnc12 := NB101_102.out
          have hz13 := cells5 BK102.out
          go_wp2
          go_meet
          case rel => exact ⟨_, (x4_1), H', ⟨qqf⟩, ⟨by (with_reducible repeat (first | refine blk_drewN ?_ _ | refine blk_drew ?_ | refine blk_alloc ?_ _)); refine blk_far ?_ NB101_102.out _; (with_reducible repeat (first | refine blk_drewN ?_ _ | refine blk_drew ?_ | refine blk_alloc ?_ _)); exact BK101.out⟩, ⟨by (with_reducible repeat (first | refine blk_drewN ?_ _ | refine blk_drew ?_ | refine blk_alloc ?_ _)); refine blk_put (cs := #[.int .i64 x103000_1, .int .i64 x103001_1, .int .i64 x103002_1, .bool x103003_1, .bool x103004_1]) ?_ 0 _ rfl; (with_reducible repeat (first | refine blk_drewN ?_ _ | refine blk_drew ?_ | refine blk_alloc ?_ _)); exact BK102.out⟩, ⟨qS2 GE101 GE102 HB.out⟩⟩
        case rest =>
          clear HC9
          obtain ⟨kq, x103000_8, HA, HJ8, BK101, BK102, HB⟩ := hcut
          cases kq with
          | zero => exact absurd HA.out (by simp [partitaref10_seen.j1])
          | succ kj8 =>
            have H := HA.out
            clear HA
            simp only [partitaref10_seen.j1] at H
            by_cases c14 : 0 ≤ x4_1
            rotate_left
            · rw [if_neg c14] at H
              exact absurd H (by simp)
            rw [if_pos c14] at H
            have c14b0 : decide (0 ≤ x4_1) = true := decide_eq_true c14
            clear c14
            by_cases c15 : x4_1 < (l0.length : Int)
            rotate_left
            · rw [if_neg c15] at H
              exact absurd H (by simp)
            rw [if_pos c15] at H
            have c15b0 : decide (x4_1 < (l0.length : Int)) = true := decide_eq_true c15
            clear c15
            have HC16 := Aside0.mk H
            clear H
            have p104 : 0 ≤ (x4_1 : Int) := of_decide_eq_true qqp
            have q104 : x4_1 < (l0.length : Int) := of_decide_eq_true qqp
            obtain ⟨ad104, A104_2, c104_2, e104, hx104_0, hx104_1, hx104_2, hx104_3, hx104_4, hx104_5, hx104_6, hx104_7, hl104_2, hi104_2⟩ := at_T38 HR0.out x4_1 p104 q104
            obtain rfl : ad103 = ad104 := (by injection e104)
            replace hx104_0 := (HB.out.cell (World.block_lt_of_cell? w _ hx104_0)).trans hx104_0
            replace hx104_1 := (HB.out.cell (World.block_lt_of_cell? w _ hx104_1)).trans hx104_1
            replace hx104_2 := (HB.out.cell (World.block_lt_of_cell? w _ hx104_2)).trans hx104_2
            replace hx104_3 := (HB.out.cell (World.block_lt_of_cell? w _ hx104_3)).trans hx104_3
            replace hx104_4 := (HB.out.cell (World.block_lt_of_cell? w _ hx104_4)).trans hx104_4
            replace hx104_5 := (HB.out.cell (World.block_lt_of_cell? w _ hx104_5)).trans hx104_5
            replace hx104_6 := (HB.out.cell (World.block_lt_of_cell? w _ hx104_6)).trans hx104_6
            replace hx104_7 := (HB.out.cell (World.block_lt_of_cell? w _ hx104_7)).trans hx104_7
            have HR104_2 := Aside0.mk hi104_2
            have HC104_2 := Aside0.mk hl104_2
            clear hi104_2 hl104_2
            replace p104 := eq_true p104
            replace q104 := eq_true q104
            go_upto_if 23 with (fail)
            go_cut [] (fun wc => ∃ (kq : Nat) (x103001_15 : Int), Aside0 (partitaref10_seen.j2 kq l0 x4_1 x103000_8 x103001_15 x103002_1 x103003_1 x103004_1 = some (r1, r2, r3, r4, r5)) ∧ Aside0 (kq ≤ kj8) ∧ Aside0 (wc.heap[gb101]? = some (.cells #[.int .i64 0, .int .i64 0, .int .i64 0, .bool false, .bool false] 55 (0, 0))) ∧ Aside0 (wc.heap[gb102]? = some (.cells #[.int .i64 x103000_8, .int .i64 x103001_15, .int .i64 x103002_1, .bool x103003_1, .bool x103004_1] 55 (0, 0))) ∧ Aside0 (Below w.heap.size w wc))
            case first =>
              have H := HC16.out
              clear HC16
              obtain ⟨bq17, hbq17⟩ : ∃ b_ : Bool, b_ = ((rd_T38 l0 x4_1).f4) := ⟨_, rfl⟩
              replace H : (if bq17 = true then (partitaref10_seen.j2 kj8 l0 x4_1 x103000_8 x4_1 x103002_1 x103003_1 x103004_1) else (partitaref10_seen.j2 kj8 l0 x4_1 x103000_8 x103001_1 x103002_1 x103003_1 x103004_1)) = some (r1, r2, r3, r4, r5) := by rw [← hbq17] at H; exact H
              have Nbq17 := Aside0.mk hbq17
              clear hbq17
              (try rw [← Nbq17.out])
              by_cases c18 : bq17 = true
              rotate_left
              · replace c18 := Bool.eq_false_iff.mpr c18
                subst c18
                have H1 : (partitaref10_seen.j2 kj8 l0 x4_1 x103000_8 x103001_1 x103002_1 x103003_1 x103004_1) = some (r1, r2, r3, r4, r5) := by rw [if_neg (show ¬ (false = true) by decide)] at H; exact H
                clear H
                have H := H1
                clear H1
                have H' := Aside0.mk H
                clear H
                go_wp2
                go_meet
                case rel => exact ⟨_, (x103001_1), H', ⟨by have := HK1.out; have := HJ8.out; first | omega⟩, ⟨bq BK101.out⟩, ⟨bq BK102.out⟩, ⟨qS2 GE101 GE102 HB.out⟩⟩
              subst c18
              have H1 : (partitaref10_seen.j2 kj8 l0 x4_1 x103000_8 x4_1 x103002_1 x103003_1 x103004_1) = some (r1, r2, r3, r4, r5) := by rw [if_pos rfl] at H; exact H
              clear H
              have H := H1
              clear H1
              have H' := Aside0.mk H
              clear H
              have hnb19 := NB102_101.out
              have hnc19 := NB101_102.out
              have hz20 := cells5 BK102.out
              go_wp2
              go_meet
              case rel => exact ⟨_, (x4_1), H', ⟨by have := HK1.out; have := HJ8.out; first | omega⟩, ⟨by (with_reducible repeat (first | refine blk_drewN ?_ _ | refine blk_drew ?_ | refine blk_alloc ?_ _)); refine blk_far ?_ NB101_102.out _; (with_reducible repeat (first | refine blk_drewN ?_ _ | refine blk_drew ?_ | refine blk_alloc ?_ _)); exact BK101.out⟩, ⟨by (with_reducible repeat (first | refine blk_drewN ?_ _ | refine blk_drew ?_ | refine blk_alloc ?_ _)); refine blk_put (cs := #[.int .i64 x103000_8, .int .i64 x103001_1, .int .i64 x103002_1, .bool x103003_1, .bool x103004_1]) ?_ 1 _ rfl; (with_reducible repeat (first | refine blk_drewN ?_ _ | refine blk_drew ?_ | refine blk_alloc ?_ _)); exact BK102.out⟩, ⟨qS2 GE101 GE102 HB.out⟩⟩
            case rest =>
              clear HC16
              obtain ⟨kq, x103001_15, HA, HJ15, BK101, BK102, HB⟩ := hcut
              cases kq with
              | zero => exact absurd HA.out (by simp [partitaref10_seen.j2])
              | succ kj15 =>
                have H := HA.out
                clear HA
                simp only [partitaref10_seen.j2] at H
                by_cases c21 : 0 ≤ x4_1
                rotate_left
                · rw [if_neg c21] at H
                  exact absurd H (by simp)
                rw [if_pos c21] at H
                have c21b0 : decide (0 ≤ x4_1) = true := decide_eq_true c21
                clear c21
                by_cases c22 : x4_1 < (l0.length : Int)
                rotate_left
                · rw [if_neg c22] at H
                  exact absurd H (by simp)
                rw [if_pos c22] at H
                have c22b0 : decide (x4_1 < (l0.length : Int)) = true := decide_eq_true c22
                clear c22
                have HC23 := Aside0.mk H
                clear H
                have p105 : 0 ≤ (x4_1 : Int) := of_decide_eq_true qqp
                have q105 : x4_1 < (l0.length : Int) := of_decide_eq_true qqp
                obtain ⟨ad105, A105_2, c105_2, e105, hx105_0, hx105_1, hx105_2, hx105_3, hx105_4, hx105_5, hx105_6, hx105_7, hl105_2, hi105_2⟩ := at_T38 HR0.out x4_1 p105 q105
                obtain rfl : ad103 = ad105 := (by injection e105)
                replace hx105_0 := (HB.out.cell (World.block_lt_of_cell? w _ hx105_0)).trans hx105_0
                replace hx105_1 := (HB.out.cell (World.block_lt_of_cell? w _ hx105_1)).trans hx105_1
                replace hx105_2 := (HB.out.cell (World.block_lt_of_cell? w _ hx105_2)).trans hx105_2
                replace hx105_3 := (HB.out.cell (World.block_lt_of_cell? w _ hx105_3)).trans hx105_3
                replace hx105_4 := (HB.out.cell (World.block_lt_of_cell? w _ hx105_4)).trans hx105_4
                replace hx105_5 := (HB.out.cell (World.block_lt_of_cell? w _ hx105_5)).trans hx105_5
                replace hx105_6 := (HB.out.cell (World.block_lt_of_cell? w _ hx105_6)).trans hx105_6
                replace hx105_7 := (HB.out.cell (World.block_lt_of_cell? w _ hx105_7)).trans hx105_7
                have HR105_2 := Aside0.mk hi105_2
                have HC105_2 := Aside0.mk hl105_2
                clear hi105_2 hl105_2
                replace p105 := eq_true p105
                replace q105 := eq_true q105
                go_upto_if 31 with (fail)
                go_cut [] (fun wc => ∃ (kq : Nat) (x103002_22 : Int), Aside0 (partitaref10_seen.j3 kq l0 x4_1 x103000_8 x103001_15 x103002_22 x103003_1 x103004_1 = some (r1, r2, r3, r4, r5)) ∧ Aside0 (kq ≤ kj15) ∧ Aside0 (wc.heap[gb101]? = some (.cells #[.int .i64 0, .int .i64 0, .int .i64 0, .bool false, .bool false] 55 (0, 0))) ∧ Aside0 (wc.heap[gb102]? = some (.cells #[.int .i64 x103000_8, .int .i64 x103001_15, .int .i64 x103002_22, .bool x103003_1, .bool x103004_1] 55 (0, 0))) ∧ Aside0 (Below w.heap.size w wc))
                case first =>
                  have H := HC23.out
                  clear HC23
                  by_cases c24 : ((rd_T38 l0 x4_1).f7) = 0
                  · rw [if_pos c24] at H
                    have c24b0 : (((rd_T38 l0 x4_1).f7) == 0) = true := beq_iff_eq.mpr c24
                    have c24b1 : (((rd_T38 l0 x4_1).f7) != 0) = false := bne_eq_false_iff_eq.mpr c24
                    clear c24
                    (first | skip)
                    have H' := Aside0.mk H
                    clear H
                    go_wp2
                    go_meet
                    case rel => exact ⟨_, (x103002_1), H', ⟨by have := HK1.out; have := HJ8.out; have := HJ15.out; first | omega⟩, ⟨bq BK101.out⟩, ⟨bq BK102.out⟩, ⟨qS2 GE101 GE102 HB.out⟩⟩
                  rw [if_neg c24] at H
                  have c24b0 : (((rd_T38 l0 x4_1).f7) == 0) = false := beq_eq_false_iff_ne.mpr c24
                  have c24b1 : (((rd_T38 l0 x4_1).f7) != 0) = true := bne_iff_ne.mpr c24
                  (first | skip)
                  have H' := Aside0.mk H
                  clear H
                  have hnb25 := NB102_101.out
                  have hnc25 := NB101_102.out
                  have hz26 := cells5 BK102.out
                  go_wp2
                  go_meet
                  case rel => exact ⟨_, (x4_1), H', ⟨by have := HK1.out; have := HJ8.out; have := HJ15.out; first | omega⟩, ⟨by (with_reducible repeat (first | refine blk_drewN ?_ _ | refine blk_drew ?_ | refine blk_alloc ?_ _)); refine blk_far ?_ NB101_102.out _; (with_reducible repeat (first | refine blk_drewN ?_ _ | refine blk_drew ?_ | refine blk_alloc ?_ _)); exact BK101.out⟩, ⟨by (with_reducible repeat (first | refine blk_drewN ?_ _ | refine blk_drew ?_ | refine blk_alloc ?_ _)); refine blk_put (cs := #[.int .i64 x103000_8, .int .i64 x103001_15, .int .i64 x103002_1, .bool x103003_1, .bool x103004_1]) ?_ 2 _ rfl; (with_reducible repeat (first | refine blk_drewN ?_ _ | refine blk_drew ?_ | refine blk_alloc ?_ _)); exact BK102.out⟩, ⟨qS2 GE101 GE102 HB.out⟩⟩
                case rest =>
                  clear HC23
                  obtain ⟨kq, x103002_22, HA, HJ22, BK101, BK102, HB⟩ := hcut
                  cases kq with
                  | zero => exact absurd HA.out (by simp [partitaref10_seen.j3])
                  | succ kj22 =>
                    have H := HA.out
                    clear HA
                    simp only [partitaref10_seen.j3] at H
                    by_cases c27 : x103003_1 = true
                    · subst c27
                      have H1 : (if x103004_1 = true then (partitaref10_seen.j4 kj22 l0 x4_1 x103000_8 x103001_15 x103002_22 true true) else (if 0 ≤ x4_1 then (if x4_1 < (l0.length : Int) then (partitaref10_seen.j4 kj22 l0 x4_1 x103000_8 x103001_15 x103002_22 true ((rd_T38 l0 x4_1).f5)) else (none)) else (none))) = some (r1, r2, r3, r4, r5) := by rw [if_pos rfl] at H; exact H
                      clear H
                      have H := H1
                      clear H1
                      by_cases c28 : x103004_1 = true
                      · subst c28
                        have H1 : (partitaref10_seen.j4 kj22 l0 x4_1 x103000_8 x103001_15 x103002_22 true true) = some (r1, r2, r3, r4, r5) := by rw [if_pos rfl] at H; exact H
                        clear H
                        have H := H1
                        clear H1
                        have H' := Aside0.mk H
                        clear H
                        have hnb29 := NB102_101.out
                        have hnc29 := NB101_102.out
                        have hz30 := cells5 BK102.out
                        go_wp2
                        go_meet
                        case rel => exact ⟨_, (x103000_8), (x103001_15), (x103002_22), (true), (true), H', ⟨qqE⟩, ⟨by (with_reducible repeat (first | refine blk_drewN ?_ _ | refine blk_drew ?_ | refine blk_alloc ?_ _)); refine blk_far ?_ NB101_102.out _; (with_reducible repeat (first | refine blk_drewN ?_ _ | refine blk_drew ?_ | refine blk_alloc ?_ _)); refine blk_far ?_ NB101_102.out _; (with_reducible repeat (first | refine blk_drewN ?_ _ | refine blk_drew ?_ | refine blk_alloc ?_ _)); exact BK101.out⟩, ⟨by (with_reducible repeat (first | refine blk_drewN ?_ _ | refine blk_drew ?_ | refine blk_alloc ?_ _)); refine blk_put (cs := #[.int .i64 x103000_8, .int .i64 x103001_15, .int .i64 x103002_22, .bool true, .bool true]) ?_ 4 _ rfl; (with_reducible repeat (first | refine blk_drewN ?_ _ | refine blk_drew ?_ | refine blk_alloc ?_ _)); refine blk_put (cs := #[.int .i64 x103000_8, .int .i64 x103001_15, .int .i64 x103002_22, .bool true, .bool true]) ?_ 3 _ rfl; (with_reducible repeat (first | refine blk_drewN ?_ _ | refine blk_drew ?_ | refine blk_alloc ?_ _)); exact BK102.out⟩, ⟨qS2 GE101 GE102 HB.out⟩⟩
                      replace c28 := Bool.eq_false_iff.mpr c28
                      subst c28
                      have H1 : (if 0 ≤ x4_1 then (if x4_1 < (l0.length : Int) then (partitaref10_seen.j4 kj22 l0 x4_1 x103000_8 x103001_15 x103002_22 true ((rd_T38 l0 x4_1).f5)) else (none)) else (none)) = some (r1, r2, r3, r4, r5) := by rw [if_neg (show ¬ (false = true) by decide)] at H; exact H
                      clear H
                      have H := H1
                      clear H1
                      by_cases c31 : 0 ≤ x4_1
                      rotate_left
                      · rw [if_neg c31] at H
                        exact absurd H (by simp)
                      rw [if_pos c31] at H
                      have c31b0 : decide (0 ≤ x4_1) = true := decide_eq_true c31
                      clear c31
                      by_cases c32 : x4_1 < (l0.length : Int)
                      rotate_left
                      · rw [if_neg c32] at H
                        exact absurd H (by simp)
                      rw [if_pos c32] at H
                      have c32b0 : decide (x4_1 < (l0.length : Int)) = true := decide_eq_true c32
                      clear c32
                      have H' := Aside0.mk H
                      clear H
                      have hnb33 := NB102_101.out
                      have hnc33 := NB101_102.out
                      have hz34 := cells5 BK102.out
                      have p107 : 0 ≤ (x4_1 : Int) := of_decide_eq_true qqp
                      have q107 : x4_1 < (l0.length : Int) := of_decide_eq_true qqp
                      obtain ⟨ad107, A107_2, c107_2, e107, hx107_0, hx107_1, hx107_2, hx107_3, hx107_4, hx107_5, hx107_6, hx107_7, hl107_2, hi107_2⟩ := at_T38 HR0.out x4_1 p107 q107
                      obtain rfl : ad103 = ad107 := (by injection e107)
                      have hn107_0 : ad103.block ≠ gb102 := Nat.ne_of_lt (Nat.lt_of_lt_of_le (by have := World.block_lt_of_cell? _ _ hx107_0; first | rwa [add_block] at this) GW102.out)
                      replace hx107_0 := (HB.out.cell (World.block_lt_of_cell? w _ hx107_0)).trans hx107_0
                      replace hx107_1 := (HB.out.cell (World.block_lt_of_cell? w _ hx107_1)).trans hx107_1
                      replace hx107_2 := (HB.out.cell (World.block_lt_of_cell? w _ hx107_2)).trans hx107_2
                      replace hx107_3 := (HB.out.cell (World.block_lt_of_cell? w _ hx107_3)).trans hx107_3
                      replace hx107_4 := (HB.out.cell (World.block_lt_of_cell? w _ hx107_4)).trans hx107_4
                      replace hx107_5 := (HB.out.cell (World.block_lt_of_cell? w _ hx107_5)).trans hx107_5
                      replace hx107_6 := (HB.out.cell (World.block_lt_of_cell? w _ hx107_6)).trans hx107_6
                      replace hx107_7 := (HB.out.cell (World.block_lt_of_cell? w _ hx107_7)).trans hx107_7
                      have HR107_2 := Aside0.mk hi107_2
                      have HC107_2 := Aside0.mk hl107_2
                      clear hi107_2 hl107_2
                      replace hx107_0 := (cell_far (p := ⟨gb102, 3, none⟩) qqA (.bool true)).trans hx107_0
                      replace hx107_1 := (cell_far (p := ⟨gb102, 3, none⟩) qqA (.bool true)).trans hx107_1
                      replace hx107_2 := (cell_far (p := ⟨gb102, 3, none⟩) qqA (.bool true)).trans hx107_2
                      replace hx107_3 := (cell_far (p := ⟨gb102, 3, none⟩) qqA (.bool true)).trans hx107_3
                      replace hx107_4 := (cell_far (p := ⟨gb102, 3, none⟩) qqA (.bool true)).trans hx107_4
                      replace hx107_5 := (cell_far (p := ⟨gb102, 3, none⟩) qqA (.bool true)).trans hx107_5
                      replace hx107_6 := (cell_far (p := ⟨gb102, 3, none⟩) qqA (.bool true)).trans hx107_6
                      replace hx107_7 := (cell_far (p := ⟨gb102, 3, none⟩) qqA (.bool true)).trans hx107_7
                      clear hn107_0
                      replace p107 := eq_true p107
                      replace q107 := eq_true q107
                      go_wp2
                      go_meet
                      case rel => exact ⟨_, (x103000_8), (x103001_15), (x103002_22), (true), ((rd_T38 l0 x4_1).f5), H', ⟨qqE⟩, ⟨by (with_reducible repeat (first | refine blk_drewN ?_ _ | refine blk_drew ?_ | refine blk_alloc ?_ _)); refine blk_far ?_ NB101_102.out _; (with_reducible repeat (first | refine blk_drewN ?_ _ | refine blk_drew ?_ | refine blk_alloc ?_ _)); refine blk_far ?_ NB101_102.out _; (with_reducible repeat (first | refine blk_drewN ?_ _ | refine blk_drew ?_ | refine blk_alloc ?_ _)); exact BK101.out⟩, ⟨by (with_reducible repeat (first | refine blk_drewN ?_ _ | refine blk_drew ?_ | refine blk_alloc ?_ _)); refine blk_put (cs := #[.int .i64 x103000_8, .int .i64 x103001_15, .int .i64 x103002_22, .bool true, .bool false]) ?_ 4 _ rfl; (with_reducible repeat (first | refine blk_drewN ?_ _ | refine blk_drew ?_ | refine blk_alloc ?_ _)); refine blk_put (cs := #[.int .i64 x103000_8, .int .i64 x103001_15, .int .i64 x103002_22, .bool true, .bool false]) ?_ 3 _ rfl; (with_reducible repeat (first | refine blk_drewN ?_ _ | refine blk_drew ?_ | refine blk_alloc ?_ _)); exact BK102.out⟩, ⟨qS2 GE101 GE102 HB.out⟩⟩
                    replace c27 := Bool.eq_false_iff.mpr c27
                    subst c27
                    have H1 : (if 0 ≤ x4_1 then (if x4_1 < (l0.length : Int) then (if x103004_1 = true then (partitaref10_seen.j4 kj22 l0 x4_1 x103000_8 x103001_15 x103002_22 ((rd_T38 l0 x4_1).f6) true) else (partitaref10_seen.j4 kj22 l0 x4_1 x103000_8 x103001_15 x103002_22 ((rd_T38 l0 x4_1).f6) ((rd_T38 l0 x4_1).f5))) else (none)) else (none)) = some (r1, r2, r3, r4, r5) := by rw [if_neg (show ¬ (false = true) by decide)] at H; exact H
                    clear H
                    have H := H1
                    clear H1
                    by_cases c35 : 0 ≤ x4_1
                    rotate_left
                    · rw [if_neg c35] at H
                      exact absurd H (by simp)
                    rw [if_pos c35] at H
                    have c35b0 : decide (0 ≤ x4_1) = true := decide_eq_true c35
                    clear c35
                    by_cases c36 : x4_1 < (l0.length : Int)
                    rotate_left
                    · rw [if_neg c36] at H
                      exact absurd H (by simp)
                    rw [if_pos c36] at H
                    have c36b0 : decide (x4_1 < (l0.length : Int)) = true := decide_eq_true c36
                    clear c36
                    by_cases c37 : x103004_1 = true
                    · subst c37
                      have H1 : (partitaref10_seen.j4 kj22 l0 x4_1 x103000_8 x103001_15 x103002_22 ((rd_T38 l0 x4_1).f6) true) = some (r1, r2, r3, r4, r5) := by rw [if_pos rfl] at H; exact H
                      clear H
                      have H := H1
                      clear H1
                      have H' := Aside0.mk H
                      clear H
                      have hnb38 := NB102_101.out
                      have hnc38 := NB101_102.out
                      have hz39 := cells5 BK102.out
                      have p106 : 0 ≤ (x4_1 : Int) := of_decide_eq_true qqp
                      have q106 : x4_1 < (l0.length : Int) := of_decide_eq_true qqp
                      obtain ⟨ad106, A106_2, c106_2, e106, hx106_0, hx106_1, hx106_2, hx106_3, hx106_4, hx106_5, hx106_6, hx106_7, hl106_2, hi106_2⟩ := at_T38 HR0.out x4_1 p106 q106
                      obtain rfl : ad103 = ad106 := (by injection e106)
                      replace hx106_0 := (HB.out.cell (World.block_lt_of_cell? w _ hx106_0)).trans hx106_0
                      replace hx106_1 := (HB.out.cell (World.block_lt_of_cell? w _ hx106_1)).trans hx106_1
                      replace hx106_2 := (HB.out.cell (World.block_lt_of_cell? w _ hx106_2)).trans hx106_2
                      replace hx106_3 := (HB.out.cell (World.block_lt_of_cell? w _ hx106_3)).trans hx106_3
                      replace hx106_4 := (HB.out.cell (World.block_lt_of_cell? w _ hx106_4)).trans hx106_4
                      replace hx106_5 := (HB.out.cell (World.block_lt_of_cell? w _ hx106_5)).trans hx106_5
                      replace hx106_6 := (HB.out.cell (World.block_lt_of_cell? w _ hx106_6)).trans hx106_6
                      replace hx106_7 := (HB.out.cell (World.block_lt_of_cell? w _ hx106_7)).trans hx106_7
                      have HR106_2 := Aside0.mk hi106_2
                      have HC106_2 := Aside0.mk hl106_2
                      clear hi106_2 hl106_2
                      replace p106 := eq_true p106
                      replace q106 := eq_true q106
                      go_wp2
                      go_meet
                      case rel => exact ⟨_, (x103000_8), (x103001_15), (x103002_22), ((rd_T38 l0 x4_1).f6), (true), H', ⟨qqE⟩, ⟨by (with_reducible repeat (first | refine blk_drewN ?_ _ | refine blk_drew ?_ | refine blk_alloc ?_ _)); refine blk_far ?_ NB101_102.out _; (with_reducible repeat (first | refine blk_drewN ?_ _ | refine blk_drew ?_ | refine blk_alloc ?_ _)); refine blk_far ?_ NB101_102.out _; (with_reducible repeat (first | refine blk_drewN ?_ _ | refine blk_drew ?_ | refine blk_alloc ?_ _)); exact BK101.out⟩, ⟨by (with_reducible repeat (first | refine blk_drewN ?_ _ | refine blk_drew ?_ | refine blk_alloc ?_ _)); refine blk_put (cs := #[.int .i64 x103000_8, .int .i64 x103001_15, .int .i64 x103002_22, .bool ((rd_T38 l0 x4_1).f6), .bool true]) ?_ 4 _ rfl; (with_reducible repeat (first | refine blk_drewN ?_ _ | refine blk_drew ?_ | refine blk_alloc ?_ _)); refine blk_put (cs := #[.int .i64 x103000_8, .int .i64 x103001_15, .int .i64 x103002_22, .bool false, .bool true]) ?_ 3 _ rfl; (with_reducible repeat (first | refine blk_drewN ?_ _ | refine blk_drew ?_ | refine blk_alloc ?_ _)); exact BK102.out⟩, ⟨qS2 GE101 GE102 HB.out⟩⟩
                    replace c37 := Bool.eq_false_iff.mpr c37
                    subst c37
                    have H1 : (partitaref10_seen.j4 kj22 l0 x4_1 x103000_8 x103001_15 x103002_22 ((rd_T38 l0 x4_1).f6) ((rd_T38 l0 x4_1).f5)) = some (r1, r2, r3, r4, r5) := by rw [if_neg (show ¬ (false = true) by decide)] at H; exact H
                    clear H
                    have H := H1
                    clear H1
                    have H' := Aside0.mk H
                    clear H
                    have hnb40 := NB102_101.out
                    have hnc40 := NB101_102.out
                    have hz41 := cells5 BK102.out
                    have p106 : 0 ≤ (x4_1 : Int) := of_decide_eq_true qqp
                    have q106 : x4_1 < (l0.length : Int) := of_decide_eq_true qqp
                    obtain ⟨ad106, A106_2, c106_2, e106, hx106_0, hx106_1, hx106_2, hx106_3, hx106_4, hx106_5, hx106_6, hx106_7, hl106_2, hi106_2⟩ := at_T38 HR0.out x4_1 p106 q106
                    obtain rfl : ad103 = ad106 := (by injection e106)
                    replace hx106_0 := (HB.out.cell (World.block_lt_of_cell? w _ hx106_0)).trans hx106_0
                    replace hx106_1 := (HB.out.cell (World.block_lt_of_cell? w _ hx106_1)).trans hx106_1
                    replace hx106_2 := (HB.out.cell (World.block_lt_of_cell? w _ hx106_2)).trans hx106_2
                    replace hx106_3 := (HB.out.cell (World.block_lt_of_cell? w _ hx106_3)).trans hx106_3
                    replace hx106_4 := (HB.out.cell (World.block_lt_of_cell? w _ hx106_4)).trans hx106_4
                    replace hx106_5 := (HB.out.cell (World.block_lt_of_cell? w _ hx106_5)).trans hx106_5
                    replace hx106_6 := (HB.out.cell (World.block_lt_of_cell? w _ hx106_6)).trans hx106_6
                    replace hx106_7 := (HB.out.cell (World.block_lt_of_cell? w _ hx106_7)).trans hx106_7
                    have HR106_2 := Aside0.mk hi106_2
                    have HC106_2 := Aside0.mk hl106_2
                    clear hi106_2 hl106_2
                    replace p106 := eq_true p106
                    replace q106 := eq_true q106
                    have p108 : 0 ≤ (x4_1 : Int) := of_decide_eq_true qqp
                    have q108 : x4_1 < (l0.length : Int) := of_decide_eq_true qqp
                    obtain ⟨ad108, A108_2, c108_2, e108, hx108_0, hx108_1, hx108_2, hx108_3, hx108_4, hx108_5, hx108_6, hx108_7, hl108_2, hi108_2⟩ := at_T38 HR0.out x4_1 p108 q108
                    obtain rfl : ad103 = ad108 := (by injection e108)
                    have hn108_0 : ad103.block ≠ gb102 := Nat.ne_of_lt (Nat.lt_of_lt_of_le (by have := World.block_lt_of_cell? _ _ hx108_0; first | rwa [add_block] at this) GW102.out)
                    replace hx108_0 := (HB.out.cell (World.block_lt_of_cell? w _ hx108_0)).trans hx108_0
                    replace hx108_1 := (HB.out.cell (World.block_lt_of_cell? w _ hx108_1)).trans hx108_1
                    replace hx108_2 := (HB.out.cell (World.block_lt_of_cell? w _ hx108_2)).trans hx108_2
                    replace hx108_3 := (HB.out.cell (World.block_lt_of_cell? w _ hx108_3)).trans hx108_3
                    replace hx108_4 := (HB.out.cell (World.block_lt_of_cell? w _ hx108_4)).trans hx108_4
                    replace hx108_5 := (HB.out.cell (World.block_lt_of_cell? w _ hx108_5)).trans hx108_5
                    replace hx108_6 := (HB.out.cell (World.block_lt_of_cell? w _ hx108_6)).trans hx108_6
                    replace hx108_7 := (HB.out.cell (World.block_lt_of_cell? w _ hx108_7)).trans hx108_7
                    have HR108_2 := Aside0.mk hi108_2
                    have HC108_2 := Aside0.mk hl108_2
                    clear hi108_2 hl108_2
                    replace hx108_0 := (cell_far (p := ⟨gb102, 3, none⟩) qqz (.bool ((rd_T38 l0 x4_1).f6))).trans hx108_0
                    replace hx108_1 := (cell_far (p := ⟨gb102, 3, none⟩) qqz (.bool ((rd_T38 l0 x4_1).f6))).trans hx108_1
                    replace hx108_2 := (cell_far (p := ⟨gb102, 3, none⟩) qqz (.bool ((rd_T38 l0 x4_1).f6))).trans hx108_2
                    replace hx108_3 := (cell_far (p := ⟨gb102, 3, none⟩) qqz (.bool ((rd_T38 l0 x4_1).f6))).trans hx108_3
                    replace hx108_4 := (cell_far (p := ⟨gb102, 3, none⟩) qqz (.bool ((rd_T38 l0 x4_1).f6))).trans hx108_4
                    replace hx108_5 := (cell_far (p := ⟨gb102, 3, none⟩) qqz (.bool ((rd_T38 l0 x4_1).f6))).trans hx108_5
                    replace hx108_6 := (cell_far (p := ⟨gb102, 3, none⟩) qqz (.bool ((rd_T38 l0 x4_1).f6))).trans hx108_6
                    replace hx108_7 := (cell_far (p := ⟨gb102, 3, none⟩) qqz (.bool ((rd_T38 l0 x4_1).f6))).trans hx108_7
                    clear hn108_0
                    replace p108 := eq_true p108
                    replace q108 := eq_true q108
                    go_wp2
                    go_meet
                    case rel => exact ⟨_, (x103000_8), (x103001_15), (x103002_22), ((rd_T38 l0 x4_1).f6), ((rd_T38 l0 x4_1).f5), H', ⟨qqE⟩, ⟨by (with_reducible repeat (first | refine blk_drewN ?_ _ | refine blk_drew ?_ | refine blk_alloc ?_ _)); refine blk_far ?_ NB101_102.out _; (with_reducible repeat (first | refine blk_drewN ?_ _ | refine blk_drew ?_ | refine blk_alloc ?_ _)); refine blk_far ?_ NB101_102.out _; (with_reducible repeat (first | refine blk_drewN ?_ _ | refine blk_drew ?_ | refine blk_alloc ?_ _)); exact BK101.out⟩, ⟨by (with_reducible repeat (first | refine blk_drewN ?_ _ | refine blk_drew ?_ | refine blk_alloc ?_ _)); refine blk_put (cs := #[.int .i64 x103000_8, .int .i64 x103001_15, .int .i64 x103002_22, .bool ((rd_T38 l0 x4_1).f6), .bool false]) ?_ 4 _ rfl; (with_reducible repeat (first | refine blk_drewN ?_ _ | refine blk_drew ?_ | refine blk_alloc ?_ _)); refine blk_put (cs := #[.int .i64 x103000_8, .int .i64 x103001_15, .int .i64 x103002_22, .bool false, .bool false]) ?_ 3 _ rfl; (with_reducible repeat (first | refine blk_drewN ?_ _ | refine blk_drew ?_ | refine blk_alloc ?_ _)); exact BK102.out⟩, ⟨qS2 GE101 GE102 HB.out⟩⟩
      case rest =>
        clear HC7
        obtain ⟨kq, x103000_6, x103001_6, x103002_6, x103003_6, x103004_6, HA, HJ6, BK101, BK102, HB⟩ := hcut
        cases kq with
        | zero => exact absurd HA.out (by simp [partitaref10_seen.j4])
        | succ kj6 =>
          have H := HA.out
          clear HA
          simp only [partitaref10_seen.j4] at H
          have H' := Aside0.mk H
          clear H
          go_wp2
          go_roundg kj6
          case measure => have := HK1.out; have := HJ6.out; omega
          case rel => exact ⟨(wrap64 (x4_1 + 1)), (x103000_6), (x103001_6), (x103002_6), (x103003_6), (x103004_6), (by first | rfl), H', ⟨by have := HK1.out; have := HJ6.out; omega⟩, ⟨bq BK101.out⟩, ⟨bq BK102.out⟩, ⟨qS2 GE101 GE102 HB.out⟩⟩
def partitaref10_toSign.f (a0 : Int) : Option (Bool) := some (decide (a0 ≥ 4))
set_option maxHeartbeats 8000000 in
set_option maxRecDepth 100000 in
theorem partitaref10_toSign.calls (a0 : Int) (r : Bool) (w : World) (h : partitaref10_toSign.f a0 = some r) :
    Calls Try.prog 33 #[.int .i64 a0] w fun e w' => e = .returned (.bool r) ∧ Drawn0 w w' := by
  have H := h
  unfold partitaref10_toSign.f at H
  clear h
  obtain rfl := Option.some.inj H
  go_enter Try.func33, Try.ntmps33
  go_wp2
  go_ret
  exact ⟨qq3, qq6⟩
def partitaref10_forFine.f (a0 : Int) : Option (Bool) := if a0 = 2 then (some true) else (some (a0 == 5))
set_option maxHeartbeats 8000000 in
set_option maxRecDepth 100000 in
theorem partitaref10_forFine.calls (a0 : Int) (r : Bool) (w : World) (h : partitaref10_forFine.f a0 = some r) :
    Calls Try.prog 34 #[.int .i64 a0] w fun e w' => e = .returned (.bool r) ∧ Drawn0 w w' := by
  have H := h
  unfold partitaref10_forFine.f at H
  clear h
  by_cases c2 : a0 = 2
  · rw [if_pos c2] at H
    have c2b0 : (a0 == 2) = true := beq_iff_eq.mpr c2
    have c2b1 : (a0 != 2) = false := bne_eq_false_iff_eq.mpr c2
    clear c2
    obtain rfl := Option.some.inj H
    go_enter Try.func34, Try.ntmps34
    go_wp2
    go_ret
    exact ⟨qq3, qq6⟩
  · rw [if_neg c2] at H
    have c2b0 : (a0 == 2) = false := beq_eq_false_iff_ne.mpr c2
    have c2b1 : (a0 != 2) = true := bne_iff_ne.mpr c2
    obtain rfl := Option.some.inj H
    go_enter Try.func34, Try.ntmps34
    go_wp2
    go_ret
    exact ⟨qq3, qq6⟩
def partitaref10_forCoda.f (a0 : Int) : Option (Bool) := if a0 = 3 then (some true) else (some (a0 == 6))
set_option maxHeartbeats 8000000 in
set_option maxRecDepth 100000 in
theorem partitaref10_forCoda.calls (a0 : Int) (r : Bool) (w : World) (h : partitaref10_forCoda.f a0 = some r) :
    Calls Try.prog 35 #[.int .i64 a0] w fun e w' => e = .returned (.bool r) ∧ Drawn0 w w' := by
  have H := h
  unfold partitaref10_forCoda.f at H
  clear h
  by_cases c2 : a0 = 3
  · rw [if_pos c2] at H
    have c2b0 : (a0 == 3) = true := beq_iff_eq.mpr c2
    have c2b1 : (a0 != 3) = false := bne_eq_false_iff_eq.mpr c2
    clear c2
    obtain rfl := Option.some.inj H
    go_enter Try.func35, Try.ntmps35
    go_wp2
    go_ret
    exact ⟨qq3, qq6⟩
  · rw [if_neg c2] at H
    have c2b0 : (a0 == 3) = false := beq_eq_false_iff_ne.mpr c2
    have c2b1 : (a0 != 3) = true := bne_iff_ne.mpr c2
    obtain rfl := Option.some.inj H
    go_enter Try.func35, Try.ntmps35
    go_wp2
    go_ret
    exact ⟨qq3, qq6⟩
mutual
def partitaref10_Check.l0 : Nat → List (S38) → Bool → Bool → Bool → Int → Option (Int × Int)
  | 0, _, _, _, _, _ => none
  | k + 1, x0, x4, x5, x6, x7 => if x7 < (x0.length : Int) then (if 0 ≤ x7 then ((partitaref10_right.f k ((rd_T38 x0 x7).f0) ((rd_T38 x0 x7).f1) ((rd_T38 x0 x7).f2) ((rd_T38 x0 x7).f3) ((rd_T38 x0 x7).f4) ((rd_T38 x0 x7).f5) ((rd_T38 x0 x7).f6) ((rd_T38 x0 x7).f7)).bind fun t103 => (if t103 = true then (if (rd_T38 x0 x7).f3 = true then (if x4 = true then (partitaref10_Check.j1 k x0 x4 x5 x6 x7 true ((rd_T38 x0 x7).f0) ((rd_T38 x0 x7).f1) ((rd_T38 x0 x7).f2) ((rd_T38 x0 x7).f3) ((rd_T38 x0 x7).f4) ((rd_T38 x0 x7).f5) ((rd_T38 x0 x7).f6) ((rd_T38 x0 x7).f7)) else (if (rd_T38 x0 x7).f4 = true then (if x5 = true then (partitaref10_Check.j1 k x0 x4 x5 x6 x7 true ((rd_T38 x0 x7).f0) ((rd_T38 x0 x7).f1) ((rd_T38 x0 x7).f2) ((rd_T38 x0 x7).f3) ((rd_T38 x0 x7).f4) ((rd_T38 x0 x7).f5) ((rd_T38 x0 x7).f6) ((rd_T38 x0 x7).f7)) else (if ((rd_T38 x0 x7).f7) = 0 then (partitaref10_Check.j1 k x0 x4 x5 x6 x7 false ((rd_T38 x0 x7).f0) ((rd_T38 x0 x7).f1) ((rd_T38 x0 x7).f2) ((rd_T38 x0 x7).f3) ((rd_T38 x0 x7).f4) ((rd_T38 x0 x7).f5) ((rd_T38 x0 x7).f6) ((rd_T38 x0 x7).f7)) else (partitaref10_Check.j1 k x0 x4 x5 x6 x7 x6 ((rd_T38 x0 x7).f0) ((rd_T38 x0 x7).f1) ((rd_T38 x0 x7).f2) ((rd_T38 x0 x7).f3) ((rd_T38 x0 x7).f4) ((rd_T38 x0 x7).f5) ((rd_T38 x0 x7).f6) ((rd_T38 x0 x7).f7)))) else (if ((rd_T38 x0 x7).f7) = 0 then (partitaref10_Check.j1 k x0 x4 x5 x6 x7 false ((rd_T38 x0 x7).f0) ((rd_T38 x0 x7).f1) ((rd_T38 x0 x7).f2) ((rd_T38 x0 x7).f3) ((rd_T38 x0 x7).f4) ((rd_T38 x0 x7).f5) ((rd_T38 x0 x7).f6) ((rd_T38 x0 x7).f7)) else (partitaref10_Check.j1 k x0 x4 x5 x6 x7 x6 ((rd_T38 x0 x7).f0) ((rd_T38 x0 x7).f1) ((rd_T38 x0 x7).f2) ((rd_T38 x0 x7).f3) ((rd_T38 x0 x7).f4) ((rd_T38 x0 x7).f5) ((rd_T38 x0 x7).f6) ((rd_T38 x0 x7).f7))))) else (if (rd_T38 x0 x7).f4 = true then (if x5 = true then (partitaref10_Check.j1 k x0 x4 x5 x6 x7 true ((rd_T38 x0 x7).f0) ((rd_T38 x0 x7).f1) ((rd_T38 x0 x7).f2) ((rd_T38 x0 x7).f3) ((rd_T38 x0 x7).f4) ((rd_T38 x0 x7).f5) ((rd_T38 x0 x7).f6) ((rd_T38 x0 x7).f7)) else (if ((rd_T38 x0 x7).f7) = 0 then (partitaref10_Check.j1 k x0 x4 x5 x6 x7 false ((rd_T38 x0 x7).f0) ((rd_T38 x0 x7).f1) ((rd_T38 x0 x7).f2) ((rd_T38 x0 x7).f3) ((rd_T38 x0 x7).f4) ((rd_T38 x0 x7).f5) ((rd_T38 x0 x7).f6) ((rd_T38 x0 x7).f7)) else (partitaref10_Check.j1 k x0 x4 x5 x6 x7 x6 ((rd_T38 x0 x7).f0) ((rd_T38 x0 x7).f1) ((rd_T38 x0 x7).f2) ((rd_T38 x0 x7).f3) ((rd_T38 x0 x7).f4) ((rd_T38 x0 x7).f5) ((rd_T38 x0 x7).f6) ((rd_T38 x0 x7).f7)))) else (if ((rd_T38 x0 x7).f7) = 0 then (partitaref10_Check.j1 k x0 x4 x5 x6 x7 false ((rd_T38 x0 x7).f0) ((rd_T38 x0 x7).f1) ((rd_T38 x0 x7).f2) ((rd_T38 x0 x7).f3) ((rd_T38 x0 x7).f4) ((rd_T38 x0 x7).f5) ((rd_T38 x0 x7).f6) ((rd_T38 x0 x7).f7)) else (partitaref10_Check.j1 k x0 x4 x5 x6 x7 x6 ((rd_T38 x0 x7).f0) ((rd_T38 x0 x7).f1) ((rd_T38 x0 x7).f2) ((rd_T38 x0 x7).f3) ((rd_T38 x0 x7).f4) ((rd_T38 x0 x7).f5) ((rd_T38 x0 x7).f6) ((rd_T38 x0 x7).f7))))) else (partitaref10_Check.j1 k x0 x4 x5 x6 x7 true ((rd_T38 x0 x7).f0) ((rd_T38 x0 x7).f1) ((rd_T38 x0 x7).f2) ((rd_T38 x0 x7).f3) ((rd_T38 x0 x7).f4) ((rd_T38 x0 x7).f5) ((rd_T38 x0 x7).f6) ((rd_T38 x0 x7).f7)))) else (none)) else ((partitaref10_seen.f k x0).bind fun bt104 => (if bt104.2.2.1 < 0 then (some (0, 0)) else (if 0 ≤ bt104.2.2.1 then (if bt104.2.2.1 < (x0.length : Int) then ((partitaref10_toSign.f ((rd_T38 x0 bt104.2.2.1).f7)).bind fun t111 => (if t111 = true then (if bt104.1 < 0 then (partitaref10_Check.j2 k true bt104.1 bt104.2.1 bt104.2.2.1 bt104.2.2.2.1 bt104.2.2.2.2) else ((partitaref10_forFine.f ((rd_T38 x0 bt104.2.2.1).f7)).bind fun t112 => (if t112 = true then (if bt104.2.2.2.1 = true then ((partitaref10_forCoda.f ((rd_T38 x0 bt104.2.2.1).f7)).bind fun t113 => (if t113 = true then (if bt104.2.2.2.2 = true then (partitaref10_Check.j2 k (decide (bt104.2.1 < 0)) bt104.1 bt104.2.1 bt104.2.2.1 bt104.2.2.2.1 bt104.2.2.2.2) else (partitaref10_Check.j2 k true bt104.1 bt104.2.1 bt104.2.2.1 bt104.2.2.2.1 bt104.2.2.2.2)) else (partitaref10_Check.j2 k false bt104.1 bt104.2.1 bt104.2.2.1 bt104.2.2.2.1 bt104.2.2.2.2))) else (partitaref10_Check.j2 k true bt104.1 bt104.2.1 bt104.2.2.1 bt104.2.2.2.1 bt104.2.2.2.2)) else ((partitaref10_forCoda.f ((rd_T38 x0 bt104.2.2.1).f7)).bind fun t114 => (if t114 = true then (if bt104.2.2.2.2 = true then (partitaref10_Check.j2 k (decide (bt104.2.1 < 0)) bt104.1 bt104.2.1 bt104.2.2.1 bt104.2.2.2.1 bt104.2.2.2.2) else (partitaref10_Check.j2 k true bt104.1 bt104.2.1 bt104.2.2.1 bt104.2.2.2.1 bt104.2.2.2.2)) else (partitaref10_Check.j2 k false bt104.1 bt104.2.1 bt104.2.2.1 bt104.2.2.2.1 bt104.2.2.2.2)))))) else ((partitaref10_forFine.f ((rd_T38 x0 bt104.2.2.1).f7)).bind fun t115 => (if t115 = true then (if bt104.2.2.2.1 = true then ((partitaref10_forCoda.f ((rd_T38 x0 bt104.2.2.1).f7)).bind fun t116 => (if t116 = true then (if bt104.2.2.2.2 = true then (partitaref10_Check.j2 k (decide (bt104.2.1 < 0)) bt104.1 bt104.2.1 bt104.2.2.1 bt104.2.2.2.1 bt104.2.2.2.2) else (partitaref10_Check.j2 k true bt104.1 bt104.2.1 bt104.2.2.1 bt104.2.2.2.1 bt104.2.2.2.2)) else (partitaref10_Check.j2 k false bt104.1 bt104.2.1 bt104.2.2.1 bt104.2.2.2.1 bt104.2.2.2.2))) else (partitaref10_Check.j2 k true bt104.1 bt104.2.1 bt104.2.2.1 bt104.2.2.2.1 bt104.2.2.2.2)) else ((partitaref10_forCoda.f ((rd_T38 x0 bt104.2.2.1).f7)).bind fun t117 => (if t117 = true then (if bt104.2.2.2.2 = true then (partitaref10_Check.j2 k (decide (bt104.2.1 < 0)) bt104.1 bt104.2.1 bt104.2.2.1 bt104.2.2.2.1 bt104.2.2.2.2) else (partitaref10_Check.j2 k true bt104.1 bt104.2.1 bt104.2.2.1 bt104.2.2.2.1 bt104.2.2.2.2)) else (partitaref10_Check.j2 k false bt104.1 bt104.2.1 bt104.2.2.1 bt104.2.2.2.1 bt104.2.2.2.2))))))) else (none)) else (none))))
def partitaref10_Check.j1 : Nat → List (S38) → Bool → Bool → Bool → Int → Bool → Bool → Int → List Int → Bool → Bool → Bool → Bool → Int → Option (Int × Int)
  | 0, _, _, _, _, _, _, _, _, _, _, _, _, _, _ => none
  | k + 1, x0, x4, x5, x6, x7, x45, x103000, x103001, x103002, x103003, x103004, x103005, x103006, x103007 => if x45 = true then (some (x7, 100)) else (if x4 = true then (if x5 = true then (if x6 = true then (partitaref10_Check.l0 k x0 true true true (wrap64 (x7 + 1))) else (partitaref10_Check.l0 k x0 true true (x103007 != 0) (wrap64 (x7 + 1)))) else (if x6 = true then (partitaref10_Check.l0 k x0 true x103004 true (wrap64 (x7 + 1))) else (partitaref10_Check.l0 k x0 true x103004 (x103007 != 0) (wrap64 (x7 + 1))))) else (if x5 = true then (if x6 = true then (partitaref10_Check.l0 k x0 x103003 true true (wrap64 (x7 + 1))) else (partitaref10_Check.l0 k x0 x103003 true (x103007 != 0) (wrap64 (x7 + 1)))) else (if x6 = true then (partitaref10_Check.l0 k x0 x103003 x103004 true (wrap64 (x7 + 1))) else (partitaref10_Check.l0 k x0 x103003 x103004 (x103007 != 0) (wrap64 (x7 + 1))))))
def partitaref10_Check.j2 : Nat → Bool → Int → Int → Int → Bool → Bool → Option (Int × Int)
  | 0, _, _, _, _, _, _ => none
  | k + 1, x103, x110000, x110001, x110002, x110003, x110004 => if x103 = true then (some (x110002, 100)) else (some (0, 0))
end
def partitaref10_Check.f (k : Nat) (l0 : List (S38)) : Option (Int × Int) := partitaref10_Check.l0 k l0 false false false 0
theorem partitaref10_Check.mono_l : ∀ k, (∀ y0 y1 y2 y3 y4, LeO (partitaref10_Check.l0 k y0 y1 y2 y3 y4) (partitaref10_Check.l0 (k + 1) y0 y1 y2 y3 y4)) ∧ (∀ y0 y1 y2 y3 y4 y5 y6 y7 y8 y9 y10 y11 y12 y13, LeO (partitaref10_Check.j1 k y0 y1 y2 y3 y4 y5 y6 y7 y8 y9 y10 y11 y12 y13) (partitaref10_Check.j1 (k + 1) y0 y1 y2 y3 y4 y5 y6 y7 y8 y9 y10 y11 y12 y13)) ∧ (∀ y0 y1 y2 y3 y4 y5, LeO (partitaref10_Check.j2 k y0 y1 y2 y3 y4 y5) (partitaref10_Check.j2 (k + 1) y0 y1 y2 y3 y4 y5))
  | 0 => ⟨fun _ _ _ _ _ r h => by simp [partitaref10_Check.l0] at h, fun _ _ _ _ _ _ _ _ _ _ _ _ _ _ r h => by simp [partitaref10_Check.j1] at h, fun _ _ _ _ _ _ r h => by simp [partitaref10_Check.j2] at h⟩
  | k + 1 => by
    obtain ⟨ih0, ih1, ih2⟩ := partitaref10_Check.mono_l k
    refine ⟨?_, ?_, ?_⟩
    · intro y0 y1 y2 y3 y4
      unfold partitaref10_Check.l0
      repeat' first
      | (with_reducible exact ih1 _ _ _ _ _ _ _ _ _ _ _ _ _ _)
      | (with_reducible exact ih2 _ _ _ _ _ _)
      | (with_reducible exact partitaref10_right.mono _ _ _ _ _ _ _ _ _)
      | (with_reducible exact partitaref10_seen.mono _ _)
      | (with_reducible exact LeO.refl _)
      | (with_reducible refine LeO.ite ?_ ?_)
      | (with_reducible refine LeO.bind ?_ (fun _ => ?_))
    · intro y0 y1 y2 y3 y4 y5 y6 y7 y8 y9 y10 y11 y12 y13
      unfold partitaref10_Check.j1
      repeat' first
      | (with_reducible exact ih0 _ _ _ _ _)
      | (with_reducible exact LeO.refl _)
      | (with_reducible refine LeO.ite ?_ ?_)
    · intro y0 y1 y2 y3 y4 y5
      unfold partitaref10_Check.j2
      repeat' first
      | (with_reducible exact LeO.refl _)
theorem partitaref10_Check.mono : ∀ a0 k, LeO (partitaref10_Check.f k a0) (partitaref10_Check.f (k + 1) a0) := by
  intro a0 k
  obtain ⟨ih0, ih1, ih2⟩ := partitaref10_Check.mono_l k
  unfold partitaref10_Check.f
  repeat' first
      | (with_reducible exact ih0 _ _ _ _ _)
set_option maxHeartbeats 8000000 in
set_option maxRecDepth 100000 in
theorem partitaref10_Check.calls (k : Nat) (A0 : Option Addr) (c0 : Nat) (l0 : List (S38)) (r1 : Int) (r2 : Int) (w : World) (hr0 : Kd.C k38 w A0 l0.length l0) (hc0 : l0.length ≤ c0) (h : partitaref10_Check.f k l0 = some (r1, r2)) :
    Calls Try.prog 14 #[.slice A0 l0.length c0] w fun e w' => e = .returned (.tuple #[.int .i64 r1, .int .i64 r2]) ∧ Below w.heap.size w w' := by
  have hu38 := Try.underlying38
  have hu55 := Try.underlying55
  have HR0 := Aside0.mk hr0
  have HC0 := Aside0.mk hc0
  clear hr0 hc0
  have HB := Aside0.mk (Below.refl w.heap.size w)
  have H := h
  unfold partitaref10_Check.f at H
  clear h
  have H' := Aside0.mk H
  clear H
  go_enter Try.func14, Try.ntmps14
  go_wp2
  go_loopg [4, 5, 6, 7] k (fun kq v4 v5 v6 v7 w' => ∃ (x4_1 : Bool) (x5_1 : Bool) (x6_1 : Bool) (x7_1 : Int), v4 = .bool x4_1 ∧ v5 = .bool x5_1 ∧ v6 = .bool x6_1 ∧ v7 = .int .i64 x7_1 ∧ Aside0 (partitaref10_Check.l0 kq l0 x4_1 x5_1 x6_1 x7_1 = some (r1, r2)) ∧ Aside0 (kq ≤ k) ∧ Aside0 (Below w.heap.size w w'))
  case atStart => exact ⟨(false), (false), (false), (0), (by first | rfl), (by first | rfl), (by first | rfl), (by first | rfl), H', ⟨Nat.le_refl _⟩, ⟨qB HB.out⟩⟩
  case round =>
    clear H'
    obtain ⟨x4_1, x5_1, x6_1, x7_1, rfl, rfl, rfl, rfl, HA, HK1, HB⟩ := hrel
    cases gk with
    | zero => exact absurd HA.out (by simp [partitaref10_Check.l0])
    | succ k1 =>
      have H := HA.out
      clear HA
      simp only [partitaref10_Check.l0] at H
      by_cases c2 : x7_1 < (l0.length : Int)
      rotate_left
      · rw [if_neg c2] at H
        have c2b0 : decide (x7_1 < (l0.length : Int)) = false := decide_eq_false c2
        clear c2
        replace H := Option.bind_eq_some_iff.mp H
        obtain ⟨⟨t104, t105, t106, t107, t108⟩, A720, H⟩ := H
        have A72 := Aside0.mk A720
        clear A720
        by_cases c73 : t106 < 0
        · rw [if_pos c73] at H
          have c73b0 : decide (t106 < 0) = true := decide_eq_true c73
          clear c73
          simp only [Option.some.injEq, Prod.mk.injEq] at H
          obtain ⟨rfl, rfl⟩ := H
          go_wp2_with (first | ((with_reducible refine gate_callee (f := 32) rfl ?_); refine goesL_ (some 64) rfl rfl Try.func32 (by kernel_rfl) rfl #[.slice A0 l0.length c0] rfl qq4 ?_; (with_reducible refine (partitaref10_seen.calls k1 _ _ l0 t104 t105 t106 t107 t108 _ ?side1 ?side2 A72.out).mono ?_); (case side1 => repeat (first | exact (Kd.C_below HR0.out HB.out))); (case side2 => exact HC0.out); rintro e w74 ⟨rfl, hb⟩; refine ⟨_, rfl, ?_⟩; replace HB := Aside0.mk (below_step (qB HB.out) hb); ) | ((with_reducible refine gate_dst (N := 9) rfl ?_); refine box_event ?hg (N := 9) ?hd (cs := #[.int .i64 0, .int .i64 0, .int .i64 0, .bool false, .bool false]) (t := 55) ?hr ?_; (case hd => rfl); (case hg => rfl); (case hr => exact qqJ); intro gb109 hg w75 hbox hb; have BK109 := Aside0.mk (hbox); have GW109 := Aside0.mk ((qqg : w.heap.size ≤ gb109)); have GE109 := Aside0.mk ((qqg : w.heap.size ≤ gb109)); replace HB := Aside0.mk (below_step (qB HB.out) hb); clear hb hbox hg; have hz76 := cells5 BK109.out))
          go_ret2
          exact ⟨by first | rfl, qS1 GE109 HB.out⟩
        rw [if_neg c73] at H
        have c73b0 : decide (t106 < 0) = false := decide_eq_false c73
        clear c73
        by_cases c77 : 0 ≤ t106
        rotate_left
        · rw [if_neg c77] at H
          exact absurd H (by simp)
        rw [if_pos c77] at H
        have c77b0 : decide (0 ≤ t106) = true := decide_eq_true c77
        clear c77
        by_cases c78 : t106 < (l0.length : Int)
        rotate_left
        · rw [if_neg c78] at H
          exact absurd H (by simp)
        rw [if_pos c78] at H
        have c78b0 : decide (t106 < (l0.length : Int)) = true := decide_eq_true c78
        clear c78
        have HC79 := Aside0.mk H
        clear H
        go_upto_region 17 with (first | ((with_reducible refine gate_callee (f := 32) rfl ?_); refine goesL_ (some 64) rfl rfl Try.func32 (by kernel_rfl) rfl #[.slice A0 l0.length c0] rfl qq4 ?_; (with_reducible refine (partitaref10_seen.calls k1 _ _ l0 t104 t105 t106 t107 t108 _ ?side1 ?side2 A72.out).mono ?_); (case side1 => repeat (first | exact (Kd.C_below HR0.out HB.out))); (case side2 => exact HC0.out); rintro e w80 ⟨rfl, hb⟩; refine ⟨_, rfl, ?_⟩; replace HB := Aside0.mk (below_step (qB HB.out) hb); ) | ((with_reducible refine gate_dst (N := 9) rfl ?_); refine box_event ?hg (N := 9) ?hd (cs := #[.int .i64 0, .int .i64 0, .int .i64 0, .bool false, .bool false]) (t := 55) ?hr ?_; (case hd => rfl); (case hg => rfl); (case hr => exact qqJ); intro gb109 hg w81 hbox hb; have BK109 := Aside0.mk (hbox); have GW109 := Aside0.mk ((qqg : w.heap.size ≤ gb109)); have GE109 := Aside0.mk ((qqg : w.heap.size ≤ gb109)); replace HB := Aside0.mk (below_step (qB HB.out) hb); clear hb hbox hg; have hz82 := cells5 BK109.out; have p110 : 0 ≤ (t106 : Int) := of_decide_eq_true qqp; have q110 : t106 < (l0.length : Int) := of_decide_eq_true qqp; obtain ⟨ad110, A110_2, c110_2, e110, hx110_0, hx110_1, hx110_2, hx110_3, hx110_4, hx110_5, hx110_6, hx110_7, hl110_2, hi110_2⟩ := at_T38 HR0.out t106 p110 q110; cases e110; have hn110_0 : ad110.block ≠ gb109 := Nat.ne_of_lt (Nat.lt_of_lt_of_le qqq GW109.out); have hn110_1 : ad110.block ≠ gb109 := Nat.ne_of_lt (Nat.lt_of_lt_of_le qqq GW109.out); have hn110_2 : ad110.block ≠ gb109 := Nat.ne_of_lt (Nat.lt_of_lt_of_le qqq GW109.out); have hn110_3 : ad110.block ≠ gb109 := Nat.ne_of_lt (Nat.lt_of_lt_of_le qqq GW109.out); have hn110_4 : ad110.block ≠ gb109 := Nat.ne_of_lt (Nat.lt_of_lt_of_le qqq GW109.out); replace hx110_0 := (HB.out.cell (World.block_lt_of_cell? w _ hx110_0)).trans hx110_0; replace hx110_1 := (HB.out.cell (World.block_lt_of_cell? w _ hx110_1)).trans hx110_1; replace hx110_2 := (HB.out.cell (World.block_lt_of_cell? w _ hx110_2)).trans hx110_2; replace hx110_3 := (HB.out.cell (World.block_lt_of_cell? w _ hx110_3)).trans hx110_3; replace hx110_4 := (HB.out.cell (World.block_lt_of_cell? w _ hx110_4)).trans hx110_4; replace hx110_5 := (HB.out.cell (World.block_lt_of_cell? w _ hx110_5)).trans hx110_5; replace hx110_6 := (HB.out.cell (World.block_lt_of_cell? w _ hx110_6)).trans hx110_6; replace hx110_7 := (HB.out.cell (World.block_lt_of_cell? w _ hx110_7)).trans hx110_7; have HR110_2 := Aside0.mk hi110_2; have HC110_2 := Aside0.mk hl110_2; clear hi110_2 hl110_2; replace hx110_0 := (cell_far (p := ⟨gb109, 0, none⟩) qqy (.int .i64 t104)).trans hx110_0; replace hx110_1 := (cell_far (p := ⟨gb109, 0, none⟩) qqy (.int .i64 t104)).trans hx110_1; replace hx110_2 := (cell_far (p := ⟨gb109, 0, none⟩) qqy (.int .i64 t104)).trans hx110_2; replace hx110_3 := (cell_far (p := ⟨gb109, 0, none⟩) qqy (.int .i64 t104)).trans hx110_3; replace hx110_4 := (cell_far (p := ⟨gb109, 0, none⟩) qqy (.int .i64 t104)).trans hx110_4; replace hx110_5 := (cell_far (p := ⟨gb109, 0, none⟩) qqy (.int .i64 t104)).trans hx110_5; replace hx110_6 := (cell_far (p := ⟨gb109, 0, none⟩) qqy (.int .i64 t104)).trans hx110_6; replace hx110_7 := (cell_far (p := ⟨gb109, 0, none⟩) qqy (.int .i64 t104)).trans hx110_7; replace hx110_0 := (cell_far (p := ⟨gb109, 1, none⟩) qqx (.int .i64 t105)).trans hx110_0; replace hx110_1 := (cell_far (p := ⟨gb109, 1, none⟩) qqx (.int .i64 t105)).trans hx110_1; replace hx110_2 := (cell_far (p := ⟨gb109, 1, none⟩) qqx (.int .i64 t105)).trans hx110_2; replace hx110_3 := (cell_far (p := ⟨gb109, 1, none⟩) qqx (.int .i64 t105)).trans hx110_3; replace hx110_4 := (cell_far (p := ⟨gb109, 1, none⟩) qqx (.int .i64 t105)).trans hx110_4; replace hx110_5 := (cell_far (p := ⟨gb109, 1, none⟩) qqx (.int .i64 t105)).trans hx110_5; replace hx110_6 := (cell_far (p := ⟨gb109, 1, none⟩) qqx (.int .i64 t105)).trans hx110_6; replace hx110_7 := (cell_far (p := ⟨gb109, 1, none⟩) qqx (.int .i64 t105)).trans hx110_7; replace hx110_0 := (cell_far (p := ⟨gb109, 2, none⟩) qqw (.int .i64 t106)).trans hx110_0; replace hx110_1 := (cell_far (p := ⟨gb109, 2, none⟩) qqw (.int .i64 t106)).trans hx110_1; replace hx110_2 := (cell_far (p := ⟨gb109, 2, none⟩) qqw (.int .i64 t106)).trans hx110_2; replace hx110_3 := (cell_far (p := ⟨gb109, 2, none⟩) qqw (.int .i64 t106)).trans hx110_3; replace hx110_4 := (cell_far (p := ⟨gb109, 2, none⟩) qqw (.int .i64 t106)).trans hx110_4; replace hx110_5 := (cell_far (p := ⟨gb109, 2, none⟩) qqw (.int .i64 t106)).trans hx110_5; replace hx110_6 := (cell_far (p := ⟨gb109, 2, none⟩) qqw (.int .i64 t106)).trans hx110_6; replace hx110_7 := (cell_far (p := ⟨gb109, 2, none⟩) qqw (.int .i64 t106)).trans hx110_7; replace hx110_0 := (cell_far (p := ⟨gb109, 3, none⟩) qqv (.bool t107)).trans hx110_0; replace hx110_1 := (cell_far (p := ⟨gb109, 3, none⟩) qqv (.bool t107)).trans hx110_1; replace hx110_2 := (cell_far (p := ⟨gb109, 3, none⟩) qqv (.bool t107)).trans hx110_2; replace hx110_3 := (cell_far (p := ⟨gb109, 3, none⟩) qqv (.bool t107)).trans hx110_3; replace hx110_4 := (cell_far (p := ⟨gb109, 3, none⟩) qqv (.bool t107)).trans hx110_4; replace hx110_5 := (cell_far (p := ⟨gb109, 3, none⟩) qqv (.bool t107)).trans hx110_5; replace hx110_6 := (cell_far (p := ⟨gb109, 3, none⟩) qqv (.bool t107)).trans hx110_6; replace hx110_7 := (cell_far (p := ⟨gb109, 3, none⟩) qqv (.bool t107)).trans hx110_7; replace hx110_0 := (cell_far (p := ⟨gb109, 4, none⟩) qqu (.bool t108)).trans hx110_0; replace hx110_1 := (cell_far (p := ⟨gb109, 4, none⟩) qqu (.bool t108)).trans hx110_1; replace hx110_2 := (cell_far (p := ⟨gb109, 4, none⟩) qqu (.bool t108)).trans hx110_2; replace hx110_3 := (cell_far (p := ⟨gb109, 4, none⟩) qqu (.bool t108)).trans hx110_3; replace hx110_4 := (cell_far (p := ⟨gb109, 4, none⟩) qqu (.bool t108)).trans hx110_4; replace hx110_5 := (cell_far (p := ⟨gb109, 4, none⟩) qqu (.bool t108)).trans hx110_5; replace hx110_6 := (cell_far (p := ⟨gb109, 4, none⟩) qqu (.bool t108)).trans hx110_6; replace hx110_7 := (cell_far (p := ⟨gb109, 4, none⟩) qqu (.bool t108)).trans hx110_7; clear hn110_0; clear hn110_1; clear hn110_2; clear hn110_3; clear hn110_4; replace p110 := eq_true p110; replace q110 := eq_true q110))
        (try simp only [Act.put, List.setIfInBounds_toArray, List.set_cons_zero, List.set_cons_succ])
        go_cut [103] (fun v103 wc => ∃ (kq : Nat) (x103_78 : Bool), v103 = .bool x103_78 ∧ Aside0 (partitaref10_Check.j2 kq x103_78 t104 t105 t106 t107 t108 = some (r1, r2)) ∧ Aside0 (kq ≤ k1) ∧ Aside0 (wc.heap[gb109]? = some (.cells #[.int .i64 t104, .int .i64 t105, .int .i64 t106, .bool t107, .bool t108] 55 (0, 0))) ∧ Aside0 (Below w.heap.size w wc))
        case first =>
          have H := HC79.out
          clear HC79
          replace H := Option.bind_eq_some_iff.mp H
          obtain ⟨t111, A830, H⟩ := H
          have A83 := Aside0.mk A830
          clear A830
          by_cases c84 : t111 = true
          rotate_left
          · replace c84 := Bool.eq_false_iff.mpr c84
            subst c84
            have H1 : ((partitaref10_forFine.f ((rd_T38 l0 t106).f7)).bind fun t115 => (if t115 = true then (if t107 = true then ((partitaref10_forCoda.f ((rd_T38 l0 t106).f7)).bind fun t116 => (if t116 = true then (if t108 = true then (partitaref10_Check.j2 k1 (decide (t105 < 0)) t104 t105 t106 t107 t108) else (partitaref10_Check.j2 k1 true t104 t105 t106 t107 t108)) else (partitaref10_Check.j2 k1 false t104 t105 t106 t107 t108))) else (partitaref10_Check.j2 k1 true t104 t105 t106 t107 t108)) else ((partitaref10_forCoda.f ((rd_T38 l0 t106).f7)).bind fun t117 => (if t117 = true then (if t108 = true then (partitaref10_Check.j2 k1 (decide (t105 < 0)) t104 t105 t106 t107 t108) else (partitaref10_Check.j2 k1 true t104 t105 t106 t107 t108)) else (partitaref10_Check.j2 k1 false t104 t105 t106 t107 t108))))) = some (r1, r2) := by rw [if_neg (show ¬ (false = true) by decide)] at H; exact H
            clear H
            have H := H1
            clear H1
            replace H := Option.bind_eq_some_iff.mp H
            obtain ⟨t115, A1030, H⟩ := H
            have A103 := Aside0.mk A1030
            clear A1030
            by_cases c104 : t115 = true
            rotate_left
            · replace c104 := Bool.eq_false_iff.mpr c104
              subst c104
              have H1 : ((partitaref10_forCoda.f ((rd_T38 l0 t106).f7)).bind fun t117 => (if t117 = true then (if t108 = true then (partitaref10_Check.j2 k1 (decide (t105 < 0)) t104 t105 t106 t107 t108) else (partitaref10_Check.j2 k1 true t104 t105 t106 t107 t108)) else (partitaref10_Check.j2 k1 false t104 t105 t106 t107 t108))) = some (r1, r2) := by rw [if_neg (show ¬ (false = true) by decide)] at H; exact H
              clear H
              have H := H1
              clear H1
              replace H := Option.bind_eq_some_iff.mp H
              obtain ⟨t117, A1130, H⟩ := H
              have A113 := Aside0.mk A1130
              clear A1130
              by_cases c114 : t117 = true
              rotate_left
              · replace c114 := Bool.eq_false_iff.mpr c114
                subst c114
                have H1 : (partitaref10_Check.j2 k1 false t104 t105 t106 t107 t108) = some (r1, r2) := by rw [if_neg (show ¬ (false = true) by decide)] at H; exact H
                clear H
                have H := H1
                clear H1
                have H' := Aside0.mk H
                clear H
                go_wp2_with (first | ((with_reducible refine gate_callee (f := 33) rfl ?_); refine goesL_ (some 75) rfl rfl Try.func33 (by kernel_rfl) rfl #[.int .i64 ((rd_T38 l0 t106).f7)] rfl qq4 ?_; (with_reducible refine (partitaref10_toSign.calls ((rd_T38 l0 t106).f7) false _ A83.out).mono ?_); rintro e w' ⟨rfl, ⟨nd, rfl⟩⟩; refine ⟨_, rfl, ?_⟩) | (go_at_call 34; (with_reducible refine (partitaref10_forFine.calls ((rd_T38 l0 t106).f7) false _ A103.out).mono ?_); rintro e w' ⟨rfl, ⟨nd, rfl⟩⟩) | (go_at_call 35; (with_reducible refine (partitaref10_forCoda.calls ((rd_T38 l0 t106).f7) false _ A113.out).mono ?_); rintro e w' ⟨rfl, ⟨nd, rfl⟩⟩))
                go_meet
                case rel => exact ⟨_, (false), (by first | rfl), H', ⟨qqf⟩, ⟨by (with_reducible repeat (first | refine blk_drewN ?_ _)); refine blk_put (cs := #[.int .i64 t104, .int .i64 t105, .int .i64 t106, .bool t107, .bool false]) ?_ 4 _ rfl; (with_reducible repeat (first | refine blk_drewN ?_ _ | refine blk_drew ?_ | refine blk_alloc ?_ _)); refine blk_put (cs := #[.int .i64 t104, .int .i64 t105, .int .i64 t106, .bool false, .bool false]) ?_ 3 _ rfl; (with_reducible repeat (first | refine blk_drewN ?_ _ | refine blk_drew ?_ | refine blk_alloc ?_ _)); refine blk_put (cs := #[.int .i64 t104, .int .i64 t105, .int .i64 0, .bool false, .bool false]) ?_ 2 _ rfl; (with_reducible repeat (first | refine blk_drewN ?_ _ | refine blk_drew ?_ | refine blk_alloc ?_ _)); refine blk_put (cs := #[.int .i64 t104, .int .i64 0, .int .i64 0, .bool false, .bool false]) ?_ 1 _ rfl; (with_reducible repeat (first | refine blk_drewN ?_ _ | refine blk_drew ?_ | refine blk_alloc ?_ _)); refine blk_put (cs := #[.int .i64 0, .int .i64 0, .int .i64 0, .bool false, .bool false]) ?_ 0 _ rfl; (with_reducible repeat (first | refine blk_drewN ?_ _ | refine blk_drew ?_ | refine blk_alloc ?_ _)); exact BK109.out⟩, ⟨qS1 GE109 HB.out⟩⟩
              subst c114
              have H1 : (if t108 = true then (partitaref10_Check.j2 k1 (decide (t105 < 0)) t104 t105 t106 t107 t108) else (partitaref10_Check.j2 k1 true t104 t105 t106 t107 t108)) = some (r1, r2) := by rw [if_pos rfl] at H; exact H
              clear H
              have H := H1
              clear H1
              by_cases c115 : t108 = true
              · subst c115
                have H1 : (partitaref10_Check.j2 k1 (decide (t105 < 0)) t104 t105 t106 t107 true) = some (r1, r2) := by rw [if_pos rfl] at H; exact H
                clear H
                have H := H1
                clear H1
                have H' := Aside0.mk H
                clear H
                go_wp2_with (first | ((with_reducible refine gate_callee (f := 33) rfl ?_); refine goesL_ (some 75) rfl rfl Try.func33 (by kernel_rfl) rfl #[.int .i64 ((rd_T38 l0 t106).f7)] rfl qq4 ?_; (with_reducible refine (partitaref10_toSign.calls ((rd_T38 l0 t106).f7) false _ A83.out).mono ?_); rintro e w' ⟨rfl, ⟨nd, rfl⟩⟩; refine ⟨_, rfl, ?_⟩) | (go_at_call 34; (with_reducible refine (partitaref10_forFine.calls ((rd_T38 l0 t106).f7) false _ A103.out).mono ?_); rintro e w' ⟨rfl, ⟨nd, rfl⟩⟩) | (go_at_call 35; (with_reducible refine (partitaref10_forCoda.calls ((rd_T38 l0 t106).f7) true _ A113.out).mono ?_); rintro e w' ⟨rfl, ⟨nd, rfl⟩⟩; have hz116 := cells5 BK109.out))
                go_meet
                case rel => exact ⟨_, (decide (t105 < 0)), (by first | rfl), H', ⟨qqf⟩, ⟨by (with_reducible repeat (first | refine blk_drewN ?_ _)); refine blk_put (cs := #[.int .i64 t104, .int .i64 t105, .int .i64 t106, .bool t107, .bool false]) ?_ 4 _ rfl; (with_reducible repeat (first | refine blk_drewN ?_ _ | refine blk_drew ?_ | refine blk_alloc ?_ _)); refine blk_put (cs := #[.int .i64 t104, .int .i64 t105, .int .i64 t106, .bool false, .bool false]) ?_ 3 _ rfl; (with_reducible repeat (first | refine blk_drewN ?_ _ | refine blk_drew ?_ | refine blk_alloc ?_ _)); refine blk_put (cs := #[.int .i64 t104, .int .i64 t105, .int .i64 0, .bool false, .bool false]) ?_ 2 _ rfl; (with_reducible repeat (first | refine blk_drewN ?_ _ | refine blk_drew ?_ | refine blk_alloc ?_ _)); refine blk_put (cs := #[.int .i64 t104, .int .i64 0, .int .i64 0, .bool false, .bool false]) ?_ 1 _ rfl; (with_reducible repeat (first | refine blk_drewN ?_ _ | refine blk_drew ?_ | refine blk_alloc ?_ _)); refine blk_put (cs := #[.int .i64 0, .int .i64 0, .int .i64 0, .bool false, .bool false]) ?_ 0 _ rfl; (with_reducible repeat (first | refine blk_drewN ?_ _ | refine blk_drew ?_ | refine blk_alloc ?_ _)); exact BK109.out⟩, ⟨qS1 GE109 HB.out⟩⟩
              replace c115 := Bool.eq_false_iff.mpr c115
              subst c115
              have H1 : (partitaref10_Check.j2 k1 true t104 t105 t106 t107 false) = some (r1, r2) := by rw [if_neg (show ¬ (false = true) by decide)] at H; exact H
              clear H
              have H := H1
              clear H1
              have H' := Aside0.mk H
              clear H
              go_wp2_with (first | ((with_reducible refine gate_callee (f := 33) rfl ?_); refine goesL_ (some 75) rfl rfl Try.func33 (by kernel_rfl) rfl #[.int .i64 ((rd_T38 l0 t106).f7)] rfl qq4 ?_; (with_reducible refine (partitaref10_toSign.calls ((rd_T38 l0 t106).f7) false _ A83.out).mono ?_); rintro e w' ⟨rfl, ⟨nd, rfl⟩⟩; refine ⟨_, rfl, ?_⟩) | (go_at_call 34; (with_reducible refine (partitaref10_forFine.calls ((rd_T38 l0 t106).f7) false _ A103.out).mono ?_); rintro e w' ⟨rfl, ⟨nd, rfl⟩⟩) | (go_at_call 35; (with_reducible refine (partitaref10_forCoda.calls ((rd_T38 l0 t106).f7) true _ A113.out).mono ?_); rintro e w' ⟨rfl, ⟨nd, rfl⟩⟩; have hz117 := cells5 BK109.out))
              go_meet
              case rel => exact ⟨_, (true), (by first | rfl), H', ⟨qqf⟩, ⟨by (with_reducible repeat (first | refine blk_drewN ?_ _)); refine blk_put (cs := #[.int .i64 t104, .int .i64 t105, .int .i64 t106, .bool t107, .bool false]) ?_ 4 _ rfl; (with_reducible repeat (first | refine blk_drewN ?_ _ | refine blk_drew ?_ | refine blk_alloc ?_ _)); refine blk_put (cs := #[.int .i64 t104, .int .i64 t105, .int .i64 t106, .bool false, .bool false]) ?_ 3 _ rfl; (with_reducible repeat (first | refine blk_drewN ?_ _ | refine blk_drew ?_ | refine blk_alloc ?_ _)); refine blk_put (cs := #[.int .i64 t104, .int .i64 t105, .int .i64 0, .bool false, .bool false]) ?_ 2 _ rfl; (with_reducible repeat (first | refine blk_drewN ?_ _ | refine blk_drew ?_ | refine blk_alloc ?_ _)); refine blk_put (cs := #[.int .i64 t104, .int .i64 0, .int .i64 0, .bool false, .bool false]) ?_ 1 _ rfl; (with_reducible repeat (first | refine blk_drewN ?_ _ | refine blk_drew ?_ | refine blk_alloc ?_ _)); refine blk_put (cs := #[.int .i64 0, .int .i64 0, .int .i64 0, .bool false, .bool false]) ?_ 0 _ rfl; (with_reducible repeat (first | refine blk_drewN ?_ _ | refine blk_drew ?_ | refine blk_alloc ?_ _)); exact BK109.out⟩, ⟨qS1 GE109 HB.out⟩⟩
            subst c104
            have H1 : (if t107 = true then ((partitaref10_forCoda.f ((rd_T38 l0 t106).f7)).bind fun t116 => (if t116 = true then (if t108 = true then (partitaref10_Check.j2 k1 (decide (t105 < 0)) t104 t105 t106 t107 t108) else (partitaref10_Check.j2 k1 true t104 t105 t106 t107 t108)) else (partitaref10_Check.j2 k1 false t104 t105 t106 t107 t108))) else (partitaref10_Check.j2 k1 true t104 t105 t106 t107 t108)) = some (r1, r2) := by rw [if_pos rfl] at H; exact H
            clear H
            have H := H1
            clear H1
            by_cases c105 : t107 = true
            rotate_left
            · replace c105 := Bool.eq_false_iff.mpr c105
              subst c105
              have H1 : (partitaref10_Check.j2 k1 true t104 t105 t106 false t108) = some (r1, r2) := by rw [if_neg (show ¬ (false = true) by decide)] at H; exact H
              clear H
              have H := H1
              clear H1
              have H' := Aside0.mk H
              clear H
              go_wp2_with (first | ((with_reducible refine gate_callee (f := 33) rfl ?_); refine goesL_ (some 75) rfl rfl Try.func33 (by kernel_rfl) rfl #[.int .i64 ((rd_T38 l0 t106).f7)] rfl qq4 ?_; (with_reducible refine (partitaref10_toSign.calls ((rd_T38 l0 t106).f7) false _ A83.out).mono ?_); rintro e w' ⟨rfl, ⟨nd, rfl⟩⟩; refine ⟨_, rfl, ?_⟩) | (go_at_call 34; (with_reducible refine (partitaref10_forFine.calls ((rd_T38 l0 t106).f7) true _ A103.out).mono ?_); rintro e w' ⟨rfl, ⟨nd, rfl⟩⟩; have hz112 := cells5 BK109.out))
              go_meet
              case rel => exact ⟨_, (true), (by first | rfl), H', ⟨qqf⟩, ⟨by (with_reducible repeat (first | refine blk_drewN ?_ _)); refine blk_put (cs := #[.int .i64 t104, .int .i64 t105, .int .i64 t106, .bool false, .bool false]) ?_ 4 _ rfl; (with_reducible repeat (first | refine blk_drewN ?_ _ | refine blk_drew ?_ | refine blk_alloc ?_ _)); refine blk_put (cs := #[.int .i64 t104, .int .i64 t105, .int .i64 t106, .bool false, .bool false]) ?_ 3 _ rfl; (with_reducible repeat (first | refine blk_drewN ?_ _ | refine blk_drew ?_ | refine blk_alloc ?_ _)); refine blk_put (cs := #[.int .i64 t104, .int .i64 t105, .int .i64 0, .bool false, .bool false]) ?_ 2 _ rfl; (with_reducible repeat (first | refine blk_drewN ?_ _ | refine blk_drew ?_ | refine blk_alloc ?_ _)); refine blk_put (cs := #[.int .i64 t104, .int .i64 0, .int .i64 0, .bool false, .bool false]) ?_ 1 _ rfl; (with_reducible repeat (first | refine blk_drewN ?_ _ | refine blk_drew ?_ | refine blk_alloc ?_ _)); refine blk_put (cs := #[.int .i64 0, .int .i64 0, .int .i64 0, .bool false, .bool false]) ?_ 0 _ rfl; (with_reducible repeat (first | refine blk_drewN ?_ _ | refine blk_drew ?_ | refine blk_alloc ?_ _)); exact BK109.out⟩, ⟨qS1 GE109 HB.out⟩⟩
            subst c105
            have H1 : ((partitaref10_forCoda.f ((rd_T38 l0 t106).f7)).bind fun t116 => (if t116 = true then (if t108 = true then (partitaref10_Check.j2 k1 (decide (t105 < 0)) t104 t105 t106 true t108) else (partitaref10_Check.j2 k1 true t104 t105 t106 true t108)) else (partitaref10_Check.j2 k1 false t104 t105 t106 true t108))) = some (r1, r2) := by rw [if_pos rfl] at H; exact H
            clear H
            have H := H1
            clear H1
            replace H := Option.bind_eq_some_iff.mp H
            obtain ⟨t116, A1060, H⟩ := H
            have A106 := Aside0.mk A1060
            clear A1060
            by_cases c107 : t116 = true
            rotate_left
            · replace c107 := Bool.eq_false_iff.mpr c107
              subst c107
              have H1 : (partitaref10_Check.j2 k1 false t104 t105 t106 true t108) = some (r1, r2) := by rw [if_neg (show ¬ (false = true) by decide)] at H; exact H
              clear H
              have H := H1
              clear H1
              have H' := Aside0.mk H
              clear H
              go_wp2_with (first | ((with_reducible refine gate_callee (f := 33) rfl ?_); refine goesL_ (some 75) rfl rfl Try.func33 (by kernel_rfl) rfl #[.int .i64 ((rd_T38 l0 t106).f7)] rfl qq4 ?_; (with_reducible refine (partitaref10_toSign.calls ((rd_T38 l0 t106).f7) false _ A83.out).mono ?_); rintro e w' ⟨rfl, ⟨nd, rfl⟩⟩; refine ⟨_, rfl, ?_⟩) | (go_at_call 34; (with_reducible refine (partitaref10_forFine.calls ((rd_T38 l0 t106).f7) true _ A103.out).mono ?_); rintro e w' ⟨rfl, ⟨nd, rfl⟩⟩; have hz111 := cells5 BK109.out) | (go_at_call 35; (with_reducible refine (partitaref10_forCoda.calls ((rd_T38 l0 t106).f7) false _ A106.out).mono ?_); rintro e w' ⟨rfl, ⟨nd, rfl⟩⟩))
              go_meet
              case rel => exact ⟨_, (false), (by first | rfl), H', ⟨qqf⟩, ⟨by (with_reducible repeat (first | refine blk_drewN ?_ _)); refine blk_put (cs := #[.int .i64 t104, .int .i64 t105, .int .i64 t106, .bool true, .bool false]) ?_ 4 _ rfl; (with_reducible repeat (first | refine blk_drewN ?_ _ | refine blk_drew ?_ | refine blk_alloc ?_ _)); refine blk_put (cs := #[.int .i64 t104, .int .i64 t105, .int .i64 t106, .bool false, .bool false]) ?_ 3 _ rfl; (with_reducible repeat (first | refine blk_drewN ?_ _ | refine blk_drew ?_ | refine blk_alloc ?_ _)); refine blk_put (cs := #[.int .i64 t104, .int .i64 t105, .int .i64 0, .bool false, .bool false]) ?_ 2 _ rfl; (with_reducible repeat (first | refine blk_drewN ?_ _ | refine blk_drew ?_ | refine blk_alloc ?_ _)); refine blk_put (cs := #[.int .i64 t104, .int .i64 0, .int .i64 0, .bool false, .bool false]) ?_ 1 _ rfl; (with_reducible repeat (first | refine blk_drewN ?_ _ | refine blk_drew ?_ | refine blk_alloc ?_ _)); refine blk_put (cs := #[.int .i64 0, .int .i64 0, .int .i64 0, .bool false, .bool false]) ?_ 0 _ rfl; (with_reducible repeat (first | refine blk_drewN ?_ _ | refine blk_drew ?_ | refine blk_alloc ?_ _)); exact BK109.out⟩, ⟨qS1 GE109 HB.out⟩⟩
            subst c107
            have H1 : (if t108 = true then (partitaref10_Check.j2 k1 (decide (t105 < 0)) t104 t105 t106 true t108) else (partitaref10_Check.j2 k1 true t104 t105 t106 true t108)) = some (r1, r2) := by rw [if_pos rfl] at H; exact H
            clear H
            have H := H1
            clear H1
            by_cases c108 : t108 = true
            · subst c108
              have H1 : (partitaref10_Check.j2 k1 (decide (t105 < 0)) t104 t105 t106 true true) = some (r1, r2) := by rw [if_pos rfl] at H; exact H
              clear H
              have H := H1
              clear H1
              have H' := Aside0.mk H
              clear H
              go_wp2_with (first | ((with_reducible refine gate_callee (f := 33) rfl ?_); refine goesL_ (some 75) rfl rfl Try.func33 (by kernel_rfl) rfl #[.int .i64 ((rd_T38 l0 t106).f7)] rfl qq4 ?_; (with_reducible refine (partitaref10_toSign.calls ((rd_T38 l0 t106).f7) false _ A83.out).mono ?_); rintro e w' ⟨rfl, ⟨nd, rfl⟩⟩; refine ⟨_, rfl, ?_⟩) | (go_at_call 34; (with_reducible refine (partitaref10_forFine.calls ((rd_T38 l0 t106).f7) true _ A103.out).mono ?_); rintro e w' ⟨rfl, ⟨nd, rfl⟩⟩; have hz109 := cells5 BK109.out) | (go_at_call 35; (with_reducible refine (partitaref10_forCoda.calls ((rd_T38 l0 t106).f7) true _ A106.out).mono ?_); rintro e w' ⟨rfl, ⟨nd, rfl⟩⟩))
              go_meet
              case rel => exact ⟨_, (decide (t105 < 0)), (by first | rfl), H', ⟨qqf⟩, ⟨by (with_reducible repeat (first | refine blk_drewN ?_ _)); refine blk_put (cs := #[.int .i64 t104, .int .i64 t105, .int .i64 t106, .bool true, .bool false]) ?_ 4 _ rfl; (with_reducible repeat (first | refine blk_drewN ?_ _ | refine blk_drew ?_ | refine blk_alloc ?_ _)); refine blk_put (cs := #[.int .i64 t104, .int .i64 t105, .int .i64 t106, .bool false, .bool false]) ?_ 3 _ rfl; (with_reducible repeat (first | refine blk_drewN ?_ _ | refine blk_drew ?_ | refine blk_alloc ?_ _)); refine blk_put (cs := #[.int .i64 t104, .int .i64 t105, .int .i64 0, .bool false, .bool false]) ?_ 2 _ rfl; (with_reducible repeat (first | refine blk_drewN ?_ _ | refine blk_drew ?_ | refine blk_alloc ?_ _)); refine blk_put (cs := #[.int .i64 t104, .int .i64 0, .int .i64 0, .bool false, .bool false]) ?_ 1 _ rfl; (with_reducible repeat (first | refine blk_drewN ?_ _ | refine blk_drew ?_ | refine blk_alloc ?_ _)); refine blk_put (cs := #[.int .i64 0, .int .i64 0, .int .i64 0, .bool false, .bool false]) ?_ 0 _ rfl; (with_reducible repeat (first | refine blk_drewN ?_ _ | refine blk_drew ?_ | refine blk_alloc ?_ _)); exact BK109.out⟩, ⟨qS1 GE109 HB.out⟩⟩
            replace c108 := Bool.eq_false_iff.mpr c108
            subst c108
            have H1 : (partitaref10_Check.j2 k1 true t104 t105 t106 true false) = some (r1, r2) := by rw [if_neg (show ¬ (false = true) by decide)] at H; exact H
            clear H
            have H := H1
            clear H1
            have H' := Aside0.mk H
            clear H
            go_wp2_with (first | ((with_reducible refine gate_callee (f := 33) rfl ?_); refine goesL_ (some 75) rfl rfl Try.func33 (by kernel_rfl) rfl #[.int .i64 ((rd_T38 l0 t106).f7)] rfl qq4 ?_; (with_reducible refine (partitaref10_toSign.calls ((rd_T38 l0 t106).f7) false _ A83.out).mono ?_); rintro e w' ⟨rfl, ⟨nd, rfl⟩⟩; refine ⟨_, rfl, ?_⟩) | (go_at_call 34; (with_reducible refine (partitaref10_forFine.calls ((rd_T38 l0 t106).f7) true _ A103.out).mono ?_); rintro e w' ⟨rfl, ⟨nd, rfl⟩⟩; have hz110 := cells5 BK109.out) | (go_at_call 35; (with_reducible refine (partitaref10_forCoda.calls ((rd_T38 l0 t106).f7) true _ A106.out).mono ?_); rintro e w' ⟨rfl, ⟨nd, rfl⟩⟩))
            go_meet
            case rel => exact ⟨_, (true), (by first | rfl), H', ⟨qqf⟩, ⟨by (with_reducible repeat (first | refine blk_drewN ?_ _)); refine blk_put (cs := #[.int .i64 t104, .int .i64 t105, .int .i64 t106, .bool true, .bool false]) ?_ 4 _ rfl; (with_reducible repeat (first | refine blk_drewN ?_ _ | refine blk_drew ?_ | refine blk_alloc ?_ _)); refine blk_put (cs := #[.int .i64 t104, .int .i64 t105, .int .i64 t106, .bool false, .bool false]) ?_ 3 _ rfl; (with_reducible repeat (first | refine blk_drewN ?_ _ | refine blk_drew ?_ | refine blk_alloc ?_ _)); refine blk_put (cs := #[.int .i64 t104, .int .i64 t105, .int .i64 0, .bool false, .bool false]) ?_ 2 _ rfl; (with_reducible repeat (first | refine blk_drewN ?_ _ | refine blk_drew ?_ | refine blk_alloc ?_ _)); refine blk_put (cs := #[.int .i64 t104, .int .i64 0, .int .i64 0, .bool false, .bool false]) ?_ 1 _ rfl; (with_reducible repeat (first | refine blk_drewN ?_ _ | refine blk_drew ?_ | refine blk_alloc ?_ _)); refine blk_put (cs := #[.int .i64 0, .int .i64 0, .int .i64 0, .bool false, .bool false]) ?_ 0 _ rfl; (with_reducible repeat (first | refine blk_drewN ?_ _ | refine blk_drew ?_ | refine blk_alloc ?_ _)); exact BK109.out⟩, ⟨qS1 GE109 HB.out⟩⟩
          subst c84
          have H1 : (if t104 < 0 then (partitaref10_Check.j2 k1 true t104 t105 t106 t107 t108) else ((partitaref10_forFine.f ((rd_T38 l0 t106).f7)).bind fun t112 => (if t112 = true then (if t107 = true then ((partitaref10_forCoda.f ((rd_T38 l0 t106).f7)).bind fun t113 => (if t113 = true then (if t108 = true then (partitaref10_Check.j2 k1 (decide (t105 < 0)) t104 t105 t106 t107 t108) else (partitaref10_Check.j2 k1 true t104 t105 t106 t107 t108)) else (partitaref10_Check.j2 k1 false t104 t105 t106 t107 t108))) else (partitaref10_Check.j2 k1 true t104 t105 t106 t107 t108)) else ((partitaref10_forCoda.f ((rd_T38 l0 t106).f7)).bind fun t114 => (if t114 = true then (if t108 = true then (partitaref10_Check.j2 k1 (decide (t105 < 0)) t104 t105 t106 t107 t108) else (partitaref10_Check.j2 k1 true t104 t105 t106 t107 t108)) else (partitaref10_Check.j2 k1 false t104 t105 t106 t107 t108)))))) = some (r1, r2) := by rw [if_pos rfl] at H; exact H
          clear H
          have H := H1
          clear H1
          by_cases c85 : t104 < 0
          · rw [if_pos c85] at H
            have c85b0 : decide (t104 < 0) = true := decide_eq_true c85
            clear c85
            (first | skip)
            have H' := Aside0.mk H
            clear H
            go_wp2_with (first | ((with_reducible refine gate_callee (f := 33) rfl ?_); refine goesL_ (some 75) rfl rfl Try.func33 (by kernel_rfl) rfl #[.int .i64 ((rd_T38 l0 t106).f7)] rfl qq4 ?_; (with_reducible refine (partitaref10_toSign.calls ((rd_T38 l0 t106).f7) true _ A83.out).mono ?_); rintro e w' ⟨rfl, ⟨nd, rfl⟩⟩; refine ⟨_, rfl, ?_⟩; have hz86 := cells5 BK109.out))
            go_meet
            case rel => exact ⟨_, (true), (by first | rfl), H', ⟨qqf⟩, ⟨by (with_reducible repeat (first | refine blk_drewN ?_ _)); refine blk_put (cs := #[.int .i64 t104, .int .i64 t105, .int .i64 t106, .bool t107, .bool false]) ?_ 4 _ rfl; (with_reducible repeat (first | refine blk_drewN ?_ _ | refine blk_drew ?_ | refine blk_alloc ?_ _)); refine blk_put (cs := #[.int .i64 t104, .int .i64 t105, .int .i64 t106, .bool false, .bool false]) ?_ 3 _ rfl; (with_reducible repeat (first | refine blk_drewN ?_ _ | refine blk_drew ?_ | refine blk_alloc ?_ _)); refine blk_put (cs := #[.int .i64 t104, .int .i64 t105, .int .i64 0, .bool false, .bool false]) ?_ 2 _ rfl; (with_reducible repeat (first | refine blk_drewN ?_ _ | refine blk_drew ?_ | refine blk_alloc ?_ _)); refine blk_put (cs := #[.int .i64 t104, .int .i64 0, .int .i64 0, .bool false, .bool false]) ?_ 1 _ rfl; (with_reducible repeat (first | refine blk_drewN ?_ _ | refine blk_drew ?_ | refine blk_alloc ?_ _)); refine blk_put (cs := #[.int .i64 0, .int .i64 0, .int .i64 0, .bool false, .bool false]) ?_ 0 _ rfl; (with_reducible repeat (first | refine blk_drewN ?_ _ | refine blk_drew ?_ | refine blk_alloc ?_ _)); exact BK109.out⟩, ⟨qS1 GE109 HB.out⟩⟩
          rw [if_neg c85] at H
          have c85b0 : decide (t104 < 0) = false := decide_eq_false c85
          clear c85
          (first | skip)
          replace H := Option.bind_eq_some_iff.mp H
          obtain ⟨t112, A870, H⟩ := H
          have A87 := Aside0.mk A870
          clear A870
          by_cases c88 : t112 = true
          rotate_left
          · replace c88 := Bool.eq_false_iff.mpr c88
            subst c88
            have H1 : ((partitaref10_forCoda.f ((rd_T38 l0 t106).f7)).bind fun t114 => (if t114 = true then (if t108 = true then (partitaref10_Check.j2 k1 (decide (t105 < 0)) t104 t105 t106 t107 t108) else (partitaref10_Check.j2 k1 true t104 t105 t106 t107 t108)) else (partitaref10_Check.j2 k1 false t104 t105 t106 t107 t108))) = some (r1, r2) := by rw [if_neg (show ¬ (false = true) by decide)] at H; exact H
            clear H
            have H := H1
            clear H1
            replace H := Option.bind_eq_some_iff.mp H
            obtain ⟨t114, A970, H⟩ := H
            have A97 := Aside0.mk A970
            clear A970
            by_cases c98 : t114 = true
            rotate_left
            · replace c98 := Bool.eq_false_iff.mpr c98
              subst c98
              have H1 : (partitaref10_Check.j2 k1 false t104 t105 t106 t107 t108) = some (r1, r2) := by rw [if_neg (show ¬ (false = true) by decide)] at H; exact H
              clear H
              have H := H1
              clear H1
              have H' := Aside0.mk H
              clear H
              go_wp2_with (first | ((with_reducible refine gate_callee (f := 33) rfl ?_); refine goesL_ (some 75) rfl rfl Try.func33 (by kernel_rfl) rfl #[.int .i64 ((rd_T38 l0 t106).f7)] rfl qq4 ?_; (with_reducible refine (partitaref10_toSign.calls ((rd_T38 l0 t106).f7) true _ A83.out).mono ?_); rintro e w' ⟨rfl, ⟨nd, rfl⟩⟩; refine ⟨_, rfl, ?_⟩; have hz102 := cells5 BK109.out) | (go_at_call 34; (with_reducible refine (partitaref10_forFine.calls ((rd_T38 l0 t106).f7) false _ A87.out).mono ?_); rintro e w' ⟨rfl, ⟨nd, rfl⟩⟩) | (go_at_call 35; (with_reducible refine (partitaref10_forCoda.calls ((rd_T38 l0 t106).f7) false _ A97.out).mono ?_); rintro e w' ⟨rfl, ⟨nd, rfl⟩⟩))
              go_meet
              case rel => exact ⟨_, (false), (by first | rfl), H', ⟨qqf⟩, ⟨by (with_reducible repeat (first | refine blk_drewN ?_ _)); refine blk_put (cs := #[.int .i64 t104, .int .i64 t105, .int .i64 t106, .bool t107, .bool false]) ?_ 4 _ rfl; (with_reducible repeat (first | refine blk_drewN ?_ _ | refine blk_drew ?_ | refine blk_alloc ?_ _)); refine blk_put (cs := #[.int .i64 t104, .int .i64 t105, .int .i64 t106, .bool false, .bool false]) ?_ 3 _ rfl; (with_reducible repeat (first | refine blk_drewN ?_ _ | refine blk_drew ?_ | refine blk_alloc ?_ _)); refine blk_put (cs := #[.int .i64 t104, .int .i64 t105, .int .i64 0, .bool false, .bool false]) ?_ 2 _ rfl; (with_reducible repeat (first | refine blk_drewN ?_ _ | refine blk_drew ?_ | refine blk_alloc ?_ _)); refine blk_put (cs := #[.int .i64 t104, .int .i64 0, .int .i64 0, .bool false, .bool false]) ?_ 1 _ rfl; (with_reducible repeat (first | refine blk_drewN ?_ _ | refine blk_drew ?_ | refine blk_alloc ?_ _)); refine blk_put (cs := #[.int .i64 0, .int .i64 0, .int .i64 0, .bool false, .bool false]) ?_ 0 _ rfl; (with_reducible repeat (first | refine blk_drewN ?_ _ | refine blk_drew ?_ | refine blk_alloc ?_ _)); exact BK109.out⟩, ⟨qS1 GE109 HB.out⟩⟩
            subst c98
            have H1 : (if t108 = true then (partitaref10_Check.j2 k1 (decide (t105 < 0)) t104 t105 t106 t107 t108) else (partitaref10_Check.j2 k1 true t104 t105 t106 t107 t108)) = some (r1, r2) := by rw [if_pos rfl] at H; exact H
            clear H
            have H := H1
            clear H1
            by_cases c99 : t108 = true
            · subst c99
              have H1 : (partitaref10_Check.j2 k1 (decide (t105 < 0)) t104 t105 t106 t107 true) = some (r1, r2) := by rw [if_pos rfl] at H; exact H
              clear H
              have H := H1
              clear H1
              have H' := Aside0.mk H
              clear H
              go_wp2_with (first | ((with_reducible refine gate_callee (f := 33) rfl ?_); refine goesL_ (some 75) rfl rfl Try.func33 (by kernel_rfl) rfl #[.int .i64 ((rd_T38 l0 t106).f7)] rfl qq4 ?_; (with_reducible refine (partitaref10_toSign.calls ((rd_T38 l0 t106).f7) true _ A83.out).mono ?_); rintro e w' ⟨rfl, ⟨nd, rfl⟩⟩; refine ⟨_, rfl, ?_⟩; have hz100 := cells5 BK109.out) | (go_at_call 34; (with_reducible refine (partitaref10_forFine.calls ((rd_T38 l0 t106).f7) false _ A87.out).mono ?_); rintro e w' ⟨rfl, ⟨nd, rfl⟩⟩) | (go_at_call 35; (with_reducible refine (partitaref10_forCoda.calls ((rd_T38 l0 t106).f7) true _ A97.out).mono ?_); rintro e w' ⟨rfl, ⟨nd, rfl⟩⟩))
              go_meet
              case rel => exact ⟨_, (decide (t105 < 0)), (by first | rfl), H', ⟨qqf⟩, ⟨by (with_reducible repeat (first | refine blk_drewN ?_ _)); refine blk_put (cs := #[.int .i64 t104, .int .i64 t105, .int .i64 t106, .bool t107, .bool false]) ?_ 4 _ rfl; (with_reducible repeat (first | refine blk_drewN ?_ _ | refine blk_drew ?_ | refine blk_alloc ?_ _)); refine blk_put (cs := #[.int .i64 t104, .int .i64 t105, .int .i64 t106, .bool false, .bool false]) ?_ 3 _ rfl; (with_reducible repeat (first | refine blk_drewN ?_ _ | refine blk_drew ?_ | refine blk_alloc ?_ _)); refine blk_put (cs := #[.int .i64 t104, .int .i64 t105, .int .i64 0, .bool false, .bool false]) ?_ 2 _ rfl; (with_reducible repeat (first | refine blk_drewN ?_ _ | refine blk_drew ?_ | refine blk_alloc ?_ _)); refine blk_put (cs := #[.int .i64 t104, .int .i64 0, .int .i64 0, .bool false, .bool false]) ?_ 1 _ rfl; (with_reducible repeat (first | refine blk_drewN ?_ _ | refine blk_drew ?_ | refine blk_alloc ?_ _)); refine blk_put (cs := #[.int .i64 0, .int .i64 0, .int .i64 0, .bool false, .bool false]) ?_ 0 _ rfl; (with_reducible repeat (first | refine blk_drewN ?_ _ | refine blk_drew ?_ | refine blk_alloc ?_ _)); exact BK109.out⟩, ⟨qS1 GE109 HB.out⟩⟩
            replace c99 := Bool.eq_false_iff.mpr c99
            subst c99
            have H1 : (partitaref10_Check.j2 k1 true t104 t105 t106 t107 false) = some (r1, r2) := by rw [if_neg (show ¬ (false = true) by decide)] at H; exact H
            clear H
            have H := H1
            clear H1
            have H' := Aside0.mk H
            clear H
            go_wp2_with (first | ((with_reducible refine gate_callee (f := 33) rfl ?_); refine goesL_ (some 75) rfl rfl Try.func33 (by kernel_rfl) rfl #[.int .i64 ((rd_T38 l0 t106).f7)] rfl qq4 ?_; (with_reducible refine (partitaref10_toSign.calls ((rd_T38 l0 t106).f7) true _ A83.out).mono ?_); rintro e w' ⟨rfl, ⟨nd, rfl⟩⟩; refine ⟨_, rfl, ?_⟩; have hz101 := cells5 BK109.out) | (go_at_call 34; (with_reducible refine (partitaref10_forFine.calls ((rd_T38 l0 t106).f7) false _ A87.out).mono ?_); rintro e w' ⟨rfl, ⟨nd, rfl⟩⟩) | (go_at_call 35; (with_reducible refine (partitaref10_forCoda.calls ((rd_T38 l0 t106).f7) true _ A97.out).mono ?_); rintro e w' ⟨rfl, ⟨nd, rfl⟩⟩))
            go_meet
            case rel => exact ⟨_, (true), (by first | rfl), H', ⟨qqf⟩, ⟨by (with_reducible repeat (first | refine blk_drewN ?_ _)); refine blk_put (cs := #[.int .i64 t104, .int .i64 t105, .int .i64 t106, .bool t107, .bool false]) ?_ 4 _ rfl; (with_reducible repeat (first | refine blk_drewN ?_ _ | refine blk_drew ?_ | refine blk_alloc ?_ _)); refine blk_put (cs := #[.int .i64 t104, .int .i64 t105, .int .i64 t106, .bool false, .bool false]) ?_ 3 _ rfl; (with_reducible repeat (first | refine blk_drewN ?_ _ | refine blk_drew ?_ | refine blk_alloc ?_ _)); refine blk_put (cs := #[.int .i64 t104, .int .i64 t105, .int .i64 0, .bool false, .bool false]) ?_ 2 _ rfl; (with_reducible repeat (first | refine blk_drewN ?_ _ | refine blk_drew ?_ | refine blk_alloc ?_ _)); refine blk_put (cs := #[.int .i64 t104, .int .i64 0, .int .i64 0, .bool false, .bool false]) ?_ 1 _ rfl; (with_reducible repeat (first | refine blk_drewN ?_ _ | refine blk_drew ?_ | refine blk_alloc ?_ _)); refine blk_put (cs := #[.int .i64 0, .int .i64 0, .int .i64 0, .bool false, .bool false]) ?_ 0 _ rfl; (with_reducible repeat (first | refine blk_drewN ?_ _ | refine blk_drew ?_ | refine blk_alloc ?_ _)); exact BK109.out⟩, ⟨qS1 GE109 HB.out⟩⟩
          subst c88
          have H1 : (if t107 = true then ((partitaref10_forCoda.f ((rd_T38 l0 t106).f7)).bind fun t113 => (if t113 = true then (if t108 = true then (partitaref10_Check.j2 k1 (decide (t105 < 0)) t104 t105 t106 t107 t108) else (partitaref10_Check.j2 k1 true t104 t105 t106 t107 t108)) else (partitaref10_Check.j2 k1 false t104 t105 t106 t107 t108))) else (partitaref10_Check.j2 k1 true t104 t105 t106 t107 t108)) = some (r1, r2) := by rw [if_pos rfl] at H; exact H
          clear H
          have H := H1
          clear H1
          by_cases c89 : t107 = true
          rotate_left
          · replace c89 := Bool.eq_false_iff.mpr c89
            subst c89
            have H1 : (partitaref10_Check.j2 k1 true t104 t105 t106 false t108) = some (r1, r2) := by rw [if_neg (show ¬ (false = true) by decide)] at H; exact H
            clear H
            have H := H1
            clear H1
            have H' := Aside0.mk H
            clear H
            go_wp2_with (first | ((with_reducible refine gate_callee (f := 33) rfl ?_); refine goesL_ (some 75) rfl rfl Try.func33 (by kernel_rfl) rfl #[.int .i64 ((rd_T38 l0 t106).f7)] rfl qq4 ?_; (with_reducible refine (partitaref10_toSign.calls ((rd_T38 l0 t106).f7) true _ A83.out).mono ?_); rintro e w' ⟨rfl, ⟨nd, rfl⟩⟩; refine ⟨_, rfl, ?_⟩; have hz96 := cells5 BK109.out) | (go_at_call 34; (with_reducible refine (partitaref10_forFine.calls ((rd_T38 l0 t106).f7) true _ A87.out).mono ?_); rintro e w' ⟨rfl, ⟨nd, rfl⟩⟩))
            go_meet
            case rel => exact ⟨_, (true), (by first | rfl), H', ⟨qqf⟩, ⟨by (with_reducible repeat (first | refine blk_drewN ?_ _)); refine blk_put (cs := #[.int .i64 t104, .int .i64 t105, .int .i64 t106, .bool false, .bool false]) ?_ 4 _ rfl; (with_reducible repeat (first | refine blk_drewN ?_ _ | refine blk_drew ?_ | refine blk_alloc ?_ _)); refine blk_put (cs := #[.int .i64 t104, .int .i64 t105, .int .i64 t106, .bool false, .bool false]) ?_ 3 _ rfl; (with_reducible repeat (first | refine blk_drewN ?_ _ | refine blk_drew ?_ | refine blk_alloc ?_ _)); refine blk_put (cs := #[.int .i64 t104, .int .i64 t105, .int .i64 0, .bool false, .bool false]) ?_ 2 _ rfl; (with_reducible repeat (first | refine blk_drewN ?_ _ | refine blk_drew ?_ | refine blk_alloc ?_ _)); refine blk_put (cs := #[.int .i64 t104, .int .i64 0, .int .i64 0, .bool false, .bool false]) ?_ 1 _ rfl; (with_reducible repeat (first | refine blk_drewN ?_ _ | refine blk_drew ?_ | refine blk_alloc ?_ _)); refine blk_put (cs := #[.int .i64 0, .int .i64 0, .int .i64 0, .bool false, .bool false]) ?_ 0 _ rfl; (with_reducible repeat (first | refine blk_drewN ?_ _ | refine blk_drew ?_ | refine blk_alloc ?_ _)); exact BK109.out⟩, ⟨qS1 GE109 HB.out⟩⟩
          subst c89
          have H1 : ((partitaref10_forCoda.f ((rd_T38 l0 t106).f7)).bind fun t113 => (if t113 = true then (if t108 = true then (partitaref10_Check.j2 k1 (decide (t105 < 0)) t104 t105 t106 true t108) else (partitaref10_Check.j2 k1 true t104 t105 t106 true t108)) else (partitaref10_Check.j2 k1 false t104 t105 t106 true t108))) = some (r1, r2) := by rw [if_pos rfl] at H; exact H
          clear H
          have H := H1
          clear H1
          replace H := Option.bind_eq_some_iff.mp H
          obtain ⟨t113, A900, H⟩ := H
          have A90 := Aside0.mk A900
          clear A900
          by_cases c91 : t113 = true
          rotate_left
          · replace c91 := Bool.eq_false_iff.mpr c91
            subst c91
            have H1 : (partitaref10_Check.j2 k1 false t104 t105 t106 true t108) = some (r1, r2) := by rw [if_neg (show ¬ (false = true) by decide)] at H; exact H
            clear H
            have H := H1
            clear H1
            have H' := Aside0.mk H
            clear H
            go_wp2_with (first | ((with_reducible refine gate_callee (f := 33) rfl ?_); refine goesL_ (some 75) rfl rfl Try.func33 (by kernel_rfl) rfl #[.int .i64 ((rd_T38 l0 t106).f7)] rfl qq4 ?_; (with_reducible refine (partitaref10_toSign.calls ((rd_T38 l0 t106).f7) true _ A83.out).mono ?_); rintro e w' ⟨rfl, ⟨nd, rfl⟩⟩; refine ⟨_, rfl, ?_⟩; have hz95 := cells5 BK109.out) | (go_at_call 34; (with_reducible refine (partitaref10_forFine.calls ((rd_T38 l0 t106).f7) true _ A87.out).mono ?_); rintro e w' ⟨rfl, ⟨nd, rfl⟩⟩) | (go_at_call 35; (with_reducible refine (partitaref10_forCoda.calls ((rd_T38 l0 t106).f7) false _ A90.out).mono ?_); rintro e w' ⟨rfl, ⟨nd, rfl⟩⟩))
            go_meet
            case rel => exact ⟨_, (false), (by first | rfl), H', ⟨qqf⟩, ⟨by (with_reducible repeat (first | refine blk_drewN ?_ _)); refine blk_put (cs := #[.int .i64 t104, .int .i64 t105, .int .i64 t106, .bool true, .bool false]) ?_ 4 _ rfl; (with_reducible repeat (first | refine blk_drewN ?_ _ | refine blk_drew ?_ | refine blk_alloc ?_ _)); refine blk_put (cs := #[.int .i64 t104, .int .i64 t105, .int .i64 t106, .bool false, .bool false]) ?_ 3 _ rfl; (with_reducible repeat (first | refine blk_drewN ?_ _ | refine blk_drew ?_ | refine blk_alloc ?_ _)); refine blk_put (cs := #[.int .i64 t104, .int .i64 t105, .int .i64 0, .bool false, .bool false]) ?_ 2 _ rfl; (with_reducible repeat (first | refine blk_drewN ?_ _ | refine blk_drew ?_ | refine blk_alloc ?_ _)); refine blk_put (cs := #[.int .i64 t104, .int .i64 0, .int .i64 0, .bool false, .bool false]) ?_ 1 _ rfl; (with_reducible repeat (first | refine blk_drewN ?_ _ | refine blk_drew ?_ | refine blk_alloc ?_ _)); refine blk_put (cs := #[.int .i64 0, .int .i64 0, .int .i64 0, .bool false, .bool false]) ?_ 0 _ rfl; (with_reducible repeat (first | refine blk_drewN ?_ _ | refine blk_drew ?_ | refine blk_alloc ?_ _)); exact BK109.out⟩, ⟨qS1 GE109 HB.out⟩⟩
          subst c91
          have H1 : (if t108 = true then (partitaref10_Check.j2 k1 (decide (t105 < 0)) t104 t105 t106 true t108) else (partitaref10_Check.j2 k1 true t104 t105 t106 true t108)) = some (r1, r2) := by rw [if_pos rfl] at H; exact H
          clear H
          have H := H1
          clear H1
          by_cases c92 : t108 = true
          · subst c92
            have H1 : (partitaref10_Check.j2 k1 (decide (t105 < 0)) t104 t105 t106 true true) = some (r1, r2) := by rw [if_pos rfl] at H; exact H
            clear H
            have H := H1
            clear H1
            have H' := Aside0.mk H
            clear H
            go_wp2_with (first | ((with_reducible refine gate_callee (f := 33) rfl ?_); refine goesL_ (some 75) rfl rfl Try.func33 (by kernel_rfl) rfl #[.int .i64 ((rd_T38 l0 t106).f7)] rfl qq4 ?_; (with_reducible refine (partitaref10_toSign.calls ((rd_T38 l0 t106).f7) true _ A83.out).mono ?_); rintro e w' ⟨rfl, ⟨nd, rfl⟩⟩; refine ⟨_, rfl, ?_⟩; have hz93 := cells5 BK109.out) | (go_at_call 34; (with_reducible refine (partitaref10_forFine.calls ((rd_T38 l0 t106).f7) true _ A87.out).mono ?_); rintro e w' ⟨rfl, ⟨nd, rfl⟩⟩) | (go_at_call 35; (with_reducible refine (partitaref10_forCoda.calls ((rd_T38 l0 t106).f7) true _ A90.out).mono ?_); rintro e w' ⟨rfl, ⟨nd, rfl⟩⟩))
            go_meet
            case rel => exact ⟨_, (decide (t105 < 0)), (by first | rfl), H', ⟨qqf⟩, ⟨by (with_reducible repeat (first | refine blk_drewN ?_ _)); refine blk_put (cs := #[.int .i64 t104, .int .i64 t105, .int .i64 t106, .bool true, .bool false]) ?_ 4 _ rfl; (with_reducible repeat (first | refine blk_drewN ?_ _ | refine blk_drew ?_ | refine blk_alloc ?_ _)); refine blk_put (cs := #[.int .i64 t104, .int .i64 t105, .int .i64 t106, .bool false, .bool false]) ?_ 3 _ rfl; (with_reducible repeat (first | refine blk_drewN ?_ _ | refine blk_drew ?_ | refine blk_alloc ?_ _)); refine blk_put (cs := #[.int .i64 t104, .int .i64 t105, .int .i64 0, .bool false, .bool false]) ?_ 2 _ rfl; (with_reducible repeat (first | refine blk_drewN ?_ _ | refine blk_drew ?_ | refine blk_alloc ?_ _)); refine blk_put (cs := #[.int .i64 t104, .int .i64 0, .int .i64 0, .bool false, .bool false]) ?_ 1 _ rfl; (with_reducible repeat (first | refine blk_drewN ?_ _ | refine blk_drew ?_ | refine blk_alloc ?_ _)); refine blk_put (cs := #[.int .i64 0, .int .i64 0, .int .i64 0, .bool false, .bool false]) ?_ 0 _ rfl; (with_reducible repeat (first | refine blk_drewN ?_ _ | refine blk_drew ?_ | refine blk_alloc ?_ _)); exact BK109.out⟩, ⟨qS1 GE109 HB.out⟩⟩
          replace c92 := Bool.eq_false_iff.mpr c92
          subst c92
          have H1 : (partitaref10_Check.j2 k1 true t104 t105 t106 true false) = some (r1, r2) := by rw [if_neg (show ¬ (false = true) by decide)] at H; exact H
          clear H
          have H := H1
          clear H1
          have H' := Aside0.mk H
          clear H
          go_wp2_with (first | ((with_reducible refine gate_callee (f := 33) rfl ?_); refine goesL_ (some 75) rfl rfl Try.func33 (by kernel_rfl) rfl #[.int .i64 ((rd_T38 l0 t106).f7)] rfl qq4 ?_; (with_reducible refine (partitaref10_toSign.calls ((rd_T38 l0 t106).f7) true _ A83.out).mono ?_); rintro e w' ⟨rfl, ⟨nd, rfl⟩⟩; refine ⟨_, rfl, ?_⟩; have hz94 := cells5 BK109.out) | (go_at_call 34; (with_reducible refine (partitaref10_forFine.calls ((rd_T38 l0 t106).f7) true _ A87.out).mono ?_); rintro e w' ⟨rfl, ⟨nd, rfl⟩⟩) | (go_at_call 35; (with_reducible refine (partitaref10_forCoda.calls ((rd_T38 l0 t106).f7) true _ A90.out).mono ?_); rintro e w' ⟨rfl, ⟨nd, rfl⟩⟩))
          go_meet
          case rel => exact ⟨_, (true), (by first | rfl), H', ⟨qqf⟩, ⟨by (with_reducible repeat (first | refine blk_drewN ?_ _)); refine blk_put (cs := #[.int .i64 t104, .int .i64 t105, .int .i64 t106, .bool true, .bool false]) ?_ 4 _ rfl; (with_reducible repeat (first | refine blk_drewN ?_ _ | refine blk_drew ?_ | refine blk_alloc ?_ _)); refine blk_put (cs := #[.int .i64 t104, .int .i64 t105, .int .i64 t106, .bool false, .bool false]) ?_ 3 _ rfl; (with_reducible repeat (first | refine blk_drewN ?_ _ | refine blk_drew ?_ | refine blk_alloc ?_ _)); refine blk_put (cs := #[.int .i64 t104, .int .i64 t105, .int .i64 0, .bool false, .bool false]) ?_ 2 _ rfl; (with_reducible repeat (first | refine blk_drewN ?_ _ | refine blk_drew ?_ | refine blk_alloc ?_ _)); refine blk_put (cs := #[.int .i64 t104, .int .i64 0, .int .i64 0, .bool false, .bool false]) ?_ 1 _ rfl; (with_reducible repeat (first | refine blk_drewN ?_ _ | refine blk_drew ?_ | refine blk_alloc ?_ _)); refine blk_put (cs := #[.int .i64 0, .int .i64 0, .int .i64 0, .bool false, .bool false]) ?_ 0 _ rfl; (with_reducible repeat (first | refine blk_drewN ?_ _ | refine blk_drew ?_ | refine blk_alloc ?_ _)); exact BK109.out⟩, ⟨qS1 GE109 HB.out⟩⟩
        case rest =>
          clear HC79
          obtain ⟨kq, x103_78, rfl, HA, HJ78, BK109, HB⟩ := hcut
          cases kq with
          | zero => exact absurd HA.out (by simp [partitaref10_Check.j2])
          | succ kj78 =>
            have H := HA.out
            clear HA
            simp only [partitaref10_Check.j2] at H
            by_cases c118 : x103_78 = true
            rotate_left
            · replace c118 := Bool.eq_false_iff.mpr c118
              subst c118
              have H1 : (some (0, 0)) = some (r1, r2) := by rw [if_neg (show ¬ (false = true) by decide)] at H; exact H
              clear H
              have H := H1
              clear H1
              simp only [Option.some.injEq, Prod.mk.injEq] at H
              obtain ⟨rfl, rfl⟩ := H
              go_wp2
              go_ret2
              exact ⟨by first | rfl, qS1 GE109 HB.out⟩
            subst c118
            have H1 : (some (t106, 100)) = some (r1, r2) := by rw [if_pos rfl] at H; exact H
            clear H
            have H := H1
            clear H1
            simp only [Option.some.injEq, Prod.mk.injEq] at H
            obtain ⟨rfl, rfl⟩ := H
            have hz119 := cells5 BK109.out
            go_wp2
            go_ret2
            exact ⟨by first | rfl, qS1 GE109 HB.out⟩
      rw [if_pos c2] at H
      have c2b0 : decide (x7_1 < (l0.length : Int)) = true := decide_eq_true c2
      clear c2
      by_cases c3 : 0 ≤ x7_1
      rotate_left
      · rw [if_neg c3] at H
        exact absurd H (by simp)
      rw [if_pos c3] at H
      have c3b0 : decide (0 ≤ x7_1) = true := decide_eq_true c3
      clear c3
      have HC4 := Aside0.mk H
      clear H
      have p101 : 0 ≤ (x7_1 : Int) := of_decide_eq_true qqp
      have q101 : x7_1 < (l0.length : Int) := of_decide_eq_true qqp
      obtain ⟨ad101, A101_2, c101_2, e101, hx101_0, hx101_1, hx101_2, hx101_3, hx101_4, hx101_5, hx101_6, hx101_7, hl101_2, hi101_2⟩ := at_T38 HR0.out x7_1 p101 q101
      cases e101
      replace hx101_0 := (HB.out.cell (World.block_lt_of_cell? w _ hx101_0)).trans hx101_0
      replace hx101_1 := (HB.out.cell (World.block_lt_of_cell? w _ hx101_1)).trans hx101_1
      replace hx101_2 := (HB.out.cell (World.block_lt_of_cell? w _ hx101_2)).trans hx101_2
      replace hx101_3 := (HB.out.cell (World.block_lt_of_cell? w _ hx101_3)).trans hx101_3
      replace hx101_4 := (HB.out.cell (World.block_lt_of_cell? w _ hx101_4)).trans hx101_4
      replace hx101_5 := (HB.out.cell (World.block_lt_of_cell? w _ hx101_5)).trans hx101_5
      replace hx101_6 := (HB.out.cell (World.block_lt_of_cell? w _ hx101_6)).trans hx101_6
      replace hx101_7 := (HB.out.cell (World.block_lt_of_cell? w _ hx101_7)).trans hx101_7
      have HR101_2 := Aside0.mk hi101_2
      have HC101_2 := Aside0.mk hl101_2
      clear hi101_2 hl101_2
      replace p101 := eq_true p101
      replace q101 := eq_true q101
      go_upto_region 8 with (first | ((with_reducible refine gate_dst (N := 8) rfl ?_); refine box_event ?hg (N := 8) ?hd (cs := #[.bool false, .int .i64 0, .slice none 0 0, .bool false, .bool false, .bool false, .bool false, .int .i64 0]) (t := 38) ?hr ?_; (case hd => rfl); (case hg => rfl); (case hr => exact qqJ); intro gb102 hg w5 hbox hb; have BK102 := Aside0.mk (hbox); have GW102 := Aside0.mk ((qqg : w.heap.size ≤ gb102)); have GE102 := Aside0.mk ((qqg : w.heap.size ≤ gb102)); replace HB := Aside0.mk (below_step (qB HB.out) hb); clear hb hbox hg; have hz6 := cells8 BK102.out))
      (try simp only [Act.put, List.setIfInBounds_toArray, List.set_cons_zero, List.set_cons_succ])
      go_cut [45] (fun v45 wc => ∃ (kq : Nat) (x45_3 : Bool), v45 = .bool x45_3 ∧ Aside0 (partitaref10_Check.j1 kq l0 x4_1 x5_1 x6_1 x7_1 x45_3 ((rd_T38 l0 x7_1).f0) ((rd_T38 l0 x7_1).f1) ((rd_T38 l0 x7_1).f2) ((rd_T38 l0 x7_1).f3) ((rd_T38 l0 x7_1).f4) ((rd_T38 l0 x7_1).f5) ((rd_T38 l0 x7_1).f6) ((rd_T38 l0 x7_1).f7) = some (r1, r2)) ∧ Aside0 (kq ≤ k1) ∧ Aside0 (wc.heap[gb102]? = some (.cells #[.bool ((rd_T38 l0 x7_1).f0), .int .i64 ((rd_T38 l0 x7_1).f1), (.slice A101_2 ((rd_T38 l0 x7_1).f2).length c101_2), .bool ((rd_T38 l0 x7_1).f3), .bool ((rd_T38 l0 x7_1).f4), .bool ((rd_T38 l0 x7_1).f5), .bool ((rd_T38 l0 x7_1).f6), .int .i64 ((rd_T38 l0 x7_1).f7)] 38 (0, 0))) ∧ Aside0 (Below w.heap.size w wc))
      case first =>
        have H := HC4.out
        clear HC4
        replace H := Option.bind_eq_some_iff.mp H
        obtain ⟨t103, A70, H⟩ := H
        have A7 := Aside0.mk A70
        clear A70
        by_cases c8 : t103 = true
        rotate_left
        · replace c8 := Bool.eq_false_iff.mpr c8
          subst c8
          have H1 : (partitaref10_Check.j1 k1 l0 x4_1 x5_1 x6_1 x7_1 true ((rd_T38 l0 x7_1).f0) ((rd_T38 l0 x7_1).f1) ((rd_T38 l0 x7_1).f2) ((rd_T38 l0 x7_1).f3) ((rd_T38 l0 x7_1).f4) ((rd_T38 l0 x7_1).f5) ((rd_T38 l0 x7_1).f6) ((rd_T38 l0 x7_1).f7)) = some (r1, r2) := by rw [if_neg (show ¬ (false = true) by decide)] at H; exact H
          clear H
          have H := H1
          clear H1
          have H' := Aside0.mk H
          clear H
          have hz55 := cells8 BK102.out
          go_wp2_with (first | ((with_reducible refine gate_callee (f := 31) rfl ?_); refine goesL_ (some 22) rfl rfl Try.func31 (by kernel_rfl) rfl #[.agg #[.bool ((rd_T38 l0 x7_1).f0), .int .i64 ((rd_T38 l0 x7_1).f1), .slice A101_2 ((rd_T38 l0 x7_1).f2).length c101_2, .bool ((rd_T38 l0 x7_1).f3), .bool ((rd_T38 l0 x7_1).f4), .bool ((rd_T38 l0 x7_1).f5), .bool ((rd_T38 l0 x7_1).f6), .int .i64 ((rd_T38 l0 x7_1).f7)]] rfl qq4 ?_; (with_reducible refine (partitaref10_right.calls k1 ((rd_T38 l0 x7_1).f0) ((rd_T38 l0 x7_1).f1) _ _ ((rd_T38 l0 x7_1).f2) ((rd_T38 l0 x7_1).f3) ((rd_T38 l0 x7_1).f4) ((rd_T38 l0 x7_1).f5) ((rd_T38 l0 x7_1).f6) ((rd_T38 l0 x7_1).f7) false _ ?side1 ?side2 A7.out).mono ?_); (case side1 => exact qqm); (case side2 => exact HC101_2.out); rintro e w56 ⟨rfl, hb⟩; refine ⟨_, rfl, ?_⟩; replace BK102 := Aside0.mk (blk_below (g := gb102) (o := .cells #[.bool ((rd_T38 l0 x7_1).f0), .int .i64 ((rd_T38 l0 x7_1).f1), .slice A101_2 ((rd_T38 l0 x7_1).f2).length c101_2, .bool ((rd_T38 l0 x7_1).f3), .bool ((rd_T38 l0 x7_1).f4), .bool ((rd_T38 l0 x7_1).f5), .bool ((rd_T38 l0 x7_1).f6), .int .i64 ((rd_T38 l0 x7_1).f7)] 38 (0, 0)) (by refine bq ?_; refine blk_put (cs := #[.bool ((rd_T38 l0 x7_1).f0), .int .i64 ((rd_T38 l0 x7_1).f1), .slice A101_2 ((rd_T38 l0 x7_1).f2).length c101_2, .bool ((rd_T38 l0 x7_1).f3), .bool ((rd_T38 l0 x7_1).f4), .bool ((rd_T38 l0 x7_1).f5), .bool ((rd_T38 l0 x7_1).f6), .int .i64 0]) ?_ 7 _ rfl; refine bq ?_; refine blk_put (cs := #[.bool ((rd_T38 l0 x7_1).f0), .int .i64 ((rd_T38 l0 x7_1).f1), .slice A101_2 ((rd_T38 l0 x7_1).f2).length c101_2, .bool ((rd_T38 l0 x7_1).f3), .bool ((rd_T38 l0 x7_1).f4), .bool ((rd_T38 l0 x7_1).f5), .bool false, .int .i64 0]) ?_ 6 _ rfl; refine bq ?_; refine blk_put (cs := #[.bool ((rd_T38 l0 x7_1).f0), .int .i64 ((rd_T38 l0 x7_1).f1), .slice A101_2 ((rd_T38 l0 x7_1).f2).length c101_2, .bool ((rd_T38 l0 x7_1).f3), .bool ((rd_T38 l0 x7_1).f4), .bool false, .bool false, .int .i64 0]) ?_ 5 _ rfl; refine bq ?_; refine blk_put (cs := #[.bool ((rd_T38 l0 x7_1).f0), .int .i64 ((rd_T38 l0 x7_1).f1), .slice A101_2 ((rd_T38 l0 x7_1).f2).length c101_2, .bool ((rd_T38 l0 x7_1).f3), .bool false, .bool false, .bool false, .int .i64 0]) ?_ 4 _ rfl; refine bq ?_; refine blk_put (cs := #[.bool ((rd_T38 l0 x7_1).f0), .int .i64 ((rd_T38 l0 x7_1).f1), .slice A101_2 ((rd_T38 l0 x7_1).f2).length c101_2, .bool false, .bool false, .bool false, .bool false, .int .i64 0]) ?_ 3 _ rfl; refine bq ?_; refine blk_put (cs := #[.bool ((rd_T38 l0 x7_1).f0), .int .i64 ((rd_T38 l0 x7_1).f1), .slice none 0 0, .bool false, .bool false, .bool false, .bool false, .int .i64 0]) ?_ 2 _ rfl; refine bq ?_; refine blk_put (cs := #[.bool ((rd_T38 l0 x7_1).f0), .int .i64 0, .slice none 0 0, .bool false, .bool false, .bool false, .bool false, .int .i64 0]) ?_ 1 _ rfl; refine bq ?_; refine blk_put (cs := #[.bool false, .int .i64 0, .slice none 0 0, .bool false, .bool false, .bool false, .bool false, .int .i64 0]) ?_ 0 _ rfl; exact bq BK102.out) hb); replace HB := Aside0.mk (below_step (qS1 GE102 HB.out) hb); ))
          go_meet
          case rel => exact ⟨_, (true), (by first | rfl), H', ⟨qqf⟩, ⟨bq BK102.out⟩, ⟨qS1 GE102 HB.out⟩⟩
        subst c8
        have H1 : (if (rd_T38 l0 x7_1).f3 = true then (if x4_1 = true then (partitaref10_Check.j1 k1 l0 x4_1 x5_1 x6_1 x7_1 true ((rd_T38 l0 x7_1).f0) ((rd_T38 l0 x7_1).f1) ((rd_T38 l0 x7_1).f2) ((rd_T38 l0 x7_1).f3) ((rd_T38 l0 x7_1).f4) ((rd_T38 l0 x7_1).f5) ((rd_T38 l0 x7_1).f6) ((rd_T38 l0 x7_1).f7)) else (if (rd_T38 l0 x7_1).f4 = true then (if x5_1 = true then (partitaref10_Check.j1 k1 l0 x4_1 x5_1 x6_1 x7_1 true ((rd_T38 l0 x7_1).f0) ((rd_T38 l0 x7_1).f1) ((rd_T38 l0 x7_1).f2) ((rd_T38 l0 x7_1).f3) ((rd_T38 l0 x7_1).f4) ((rd_T38 l0 x7_1).f5) ((rd_T38 l0 x7_1).f6) ((rd_T38 l0 x7_1).f7)) else (if ((rd_T38 l0 x7_1).f7) = 0 then (partitaref10_Check.j1 k1 l0 x4_1 x5_1 x6_1 x7_1 false ((rd_T38 l0 x7_1).f0) ((rd_T38 l0 x7_1).f1) ((rd_T38 l0 x7_1).f2) ((rd_T38 l0 x7_1).f3) ((rd_T38 l0 x7_1).f4) ((rd_T38 l0 x7_1).f5) ((rd_T38 l0 x7_1).f6) ((rd_T38 l0 x7_1).f7)) else (partitaref10_Check.j1 k1 l0 x4_1 x5_1 x6_1 x7_1 x6_1 ((rd_T38 l0 x7_1).f0) ((rd_T38 l0 x7_1).f1) ((rd_T38 l0 x7_1).f2) ((rd_T38 l0 x7_1).f3) ((rd_T38 l0 x7_1).f4) ((rd_T38 l0 x7_1).f5) ((rd_T38 l0 x7_1).f6) ((rd_T38 l0 x7_1).f7)))) else (if ((rd_T38 l0 x7_1).f7) = 0 then (partitaref10_Check.j1 k1 l0 x4_1 x5_1 x6_1 x7_1 false ((rd_T38 l0 x7_1).f0) ((rd_T38 l0 x7_1).f1) ((rd_T38 l0 x7_1).f2) ((rd_T38 l0 x7_1).f3) ((rd_T38 l0 x7_1).f4) ((rd_T38 l0 x7_1).f5) ((rd_T38 l0 x7_1).f6) ((rd_T38 l0 x7_1).f7)) else (partitaref10_Check.j1 k1 l0 x4_1 x5_1 x6_1 x7_1 x6_1 ((rd_T38 l0 x7_1).f0) ((rd_T38 l0 x7_1).f1) ((rd_T38 l0 x7_1).f2) ((rd_T38 l0 x7_1).f3) ((rd_T38 l0 x7_1).f4) ((rd_T38 l0 x7_1).f5) ((rd_T38 l0 x7_1).f6) ((rd_T38 l0 x7_1).f7))))) else (if (rd_T38 l0 x7_1).f4 = true then (if x5_1 = true then (partitaref10_Check.j1 k1 l0 x4_1 x5_1 x6_1 x7_1 true ((rd_T38 l0 x7_1).f0) ((rd_T38 l0 x7_1).f1) ((rd_T38 l0 x7_1).f2) ((rd_T38 l0 x7_1).f3) ((rd_T38 l0 x7_1).f4) ((rd_T38 l0 x7_1).f5) ((rd_T38 l0 x7_1).f6) ((rd_T38 l0 x7_1).f7)) else (if ((rd_T38 l0 x7_1).f7) = 0 then (partitaref10_Check.j1 k1 l0 x4_1 x5_1 x6_1 x7_1 false ((rd_T38 l0 x7_1).f0) ((rd_T38 l0 x7_1).f1) ((rd_T38 l0 x7_1).f2) ((rd_T38 l0 x7_1).f3) ((rd_T38 l0 x7_1).f4) ((rd_T38 l0 x7_1).f5) ((rd_T38 l0 x7_1).f6) ((rd_T38 l0 x7_1).f7)) else (partitaref10_Check.j1 k1 l0 x4_1 x5_1 x6_1 x7_1 x6_1 ((rd_T38 l0 x7_1).f0) ((rd_T38 l0 x7_1).f1) ((rd_T38 l0 x7_1).f2) ((rd_T38 l0 x7_1).f3) ((rd_T38 l0 x7_1).f4) ((rd_T38 l0 x7_1).f5) ((rd_T38 l0 x7_1).f6) ((rd_T38 l0 x7_1).f7)))) else (if ((rd_T38 l0 x7_1).f7) = 0 then (partitaref10_Check.j1 k1 l0 x4_1 x5_1 x6_1 x7_1 false ((rd_T38 l0 x7_1).f0) ((rd_T38 l0 x7_1).f1) ((rd_T38 l0 x7_1).f2) ((rd_T38 l0 x7_1).f3) ((rd_T38 l0 x7_1).f4) ((rd_T38 l0 x7_1).f5) ((rd_T38 l0 x7_1).f6) ((rd_T38 l0 x7_1).f7)) else (partitaref10_Check.j1 k1 l0 x4_1 x5_1 x6_1 x7_1 x6_1 ((rd_T38 l0 x7_1).f0) ((rd_T38 l0 x7_1).f1) ((rd_T38 l0 x7_1).f2) ((rd_T38 l0 x7_1).f3) ((rd_T38 l0 x7_1).f4) ((rd_T38 l0 x7_1).f5) ((rd_T38 l0 x7_1).f6) ((rd_T38 l0 x7_1).f7))))) = some (r1, r2) := by rw [if_pos rfl] at H; exact H
        clear H
        have H := H1
        clear H1
        obtain ⟨bq9, hbq9⟩ : ∃ b_ : Bool, b_ = ((rd_T38 l0 x7_1).f3) := ⟨_, rfl⟩
        replace H : (if bq9 = true then (if x4_1 = true then (partitaref10_Check.j1 k1 l0 x4_1 x5_1 x6_1 x7_1 true ((rd_T38 l0 x7_1).f0) ((rd_T38 l0 x7_1).f1) ((rd_T38 l0 x7_1).f2) bq9 ((rd_T38 l0 x7_1).f4) ((rd_T38 l0 x7_1).f5) ((rd_T38 l0 x7_1).f6) ((rd_T38 l0 x7_1).f7)) else (if (rd_T38 l0 x7_1).f4 = true then (if x5_1 = true then (partitaref10_Check.j1 k1 l0 x4_1 x5_1 x6_1 x7_1 true ((rd_T38 l0 x7_1).f0) ((rd_T38 l0 x7_1).f1) ((rd_T38 l0 x7_1).f2) bq9 ((rd_T38 l0 x7_1).f4) ((rd_T38 l0 x7_1).f5) ((rd_T38 l0 x7_1).f6) ((rd_T38 l0 x7_1).f7)) else (if ((rd_T38 l0 x7_1).f7) = 0 then (partitaref10_Check.j1 k1 l0 x4_1 x5_1 x6_1 x7_1 false ((rd_T38 l0 x7_1).f0) ((rd_T38 l0 x7_1).f1) ((rd_T38 l0 x7_1).f2) bq9 ((rd_T38 l0 x7_1).f4) ((rd_T38 l0 x7_1).f5) ((rd_T38 l0 x7_1).f6) ((rd_T38 l0 x7_1).f7)) else (partitaref10_Check.j1 k1 l0 x4_1 x5_1 x6_1 x7_1 x6_1 ((rd_T38 l0 x7_1).f0) ((rd_T38 l0 x7_1).f1) ((rd_T38 l0 x7_1).f2) bq9 ((rd_T38 l0 x7_1).f4) ((rd_T38 l0 x7_1).f5) ((rd_T38 l0 x7_1).f6) ((rd_T38 l0 x7_1).f7)))) else (if ((rd_T38 l0 x7_1).f7) = 0 then (partitaref10_Check.j1 k1 l0 x4_1 x5_1 x6_1 x7_1 false ((rd_T38 l0 x7_1).f0) ((rd_T38 l0 x7_1).f1) ((rd_T38 l0 x7_1).f2) bq9 ((rd_T38 l0 x7_1).f4) ((rd_T38 l0 x7_1).f5) ((rd_T38 l0 x7_1).f6) ((rd_T38 l0 x7_1).f7)) else (partitaref10_Check.j1 k1 l0 x4_1 x5_1 x6_1 x7_1 x6_1 ((rd_T38 l0 x7_1).f0) ((rd_T38 l0 x7_1).f1) ((rd_T38 l0 x7_1).f2) bq9 ((rd_T38 l0 x7_1).f4) ((rd_T38 l0 x7_1).f5) ((rd_T38 l0 x7_1).f6) ((rd_T38 l0 x7_1).f7))))) else (if (rd_T38 l0 x7_1).f4 = true then (if x5_1 = true then (partitaref10_Check.j1 k1 l0 x4_1 x5_1 x6_1 x7_1 true ((rd_T38 l0 x7_1).f0) ((rd_T38 l0 x7_1).f1) ((rd_T38 l0 x7_1).f2) bq9 ((rd_T38 l0 x7_1).f4) ((rd_T38 l0 x7_1).f5) ((rd_T38 l0 x7_1).f6) ((rd_T38 l0 x7_1).f7)) else (if ((rd_T38 l0 x7_1).f7) = 0 then (partitaref10_Check.j1 k1 l0 x4_1 x5_1 x6_1 x7_1 false ((rd_T38 l0 x7_1).f0) ((rd_T38 l0 x7_1).f1) ((rd_T38 l0 x7_1).f2) bq9 ((rd_T38 l0 x7_1).f4) ((rd_T38 l0 x7_1).f5) ((rd_T38 l0 x7_1).f6) ((rd_T38 l0 x7_1).f7)) else (partitaref10_Check.j1 k1 l0 x4_1 x5_1 x6_1 x7_1 x6_1 ((rd_T38 l0 x7_1).f0) ((rd_T38 l0 x7_1).f1) ((rd_T38 l0 x7_1).f2) bq9 ((rd_T38 l0 x7_1).f4) ((rd_T38 l0 x7_1).f5) ((rd_T38 l0 x7_1).f6) ((rd_T38 l0 x7_1).f7)))) else (if ((rd_T38 l0 x7_1).f7) = 0 then (partitaref10_Check.j1 k1 l0 x4_1 x5_1 x6_1 x7_1 false ((rd_T38 l0 x7_1).f0) ((rd_T38 l0 x7_1).f1) ((rd_T38 l0 x7_1).f2) bq9 ((rd_T38 l0 x7_1).f4) ((rd_T38 l0 x7_1).f5) ((rd_T38 l0 x7_1).f6) ((rd_T38 l0 x7_1).f7)) else (partitaref10_Check.j1 k1 l0 x4_1 x5_1 x6_1 x7_1 x6_1 ((rd_T38 l0 x7_1).f0) ((rd_T38 l0 x7_1).f1) ((rd_T38 l0 x7_1).f2) bq9 ((rd_T38 l0 x7_1).f4) ((rd_T38 l0 x7_1).f5) ((rd_T38 l0 x7_1).f6) ((rd_T38 l0 x7_1).f7))))) = some (r1, r2) := by rw [← hbq9] at H; exact H
        have Nbq9 := Aside0.mk hbq9
        clear hbq9
        (try rw [← Nbq9.out] at A7)
        (try rw [← Nbq9.out])
        by_cases c10 : bq9 = true
        rotate_left
        · replace c10 := Bool.eq_false_iff.mpr c10
          subst c10
          have H1 : (if (rd_T38 l0 x7_1).f4 = true then (if x5_1 = true then (partitaref10_Check.j1 k1 l0 x4_1 x5_1 x6_1 x7_1 true ((rd_T38 l0 x7_1).f0) ((rd_T38 l0 x7_1).f1) ((rd_T38 l0 x7_1).f2) false ((rd_T38 l0 x7_1).f4) ((rd_T38 l0 x7_1).f5) ((rd_T38 l0 x7_1).f6) ((rd_T38 l0 x7_1).f7)) else (if ((rd_T38 l0 x7_1).f7) = 0 then (partitaref10_Check.j1 k1 l0 x4_1 x5_1 x6_1 x7_1 false ((rd_T38 l0 x7_1).f0) ((rd_T38 l0 x7_1).f1) ((rd_T38 l0 x7_1).f2) false ((rd_T38 l0 x7_1).f4) ((rd_T38 l0 x7_1).f5) ((rd_T38 l0 x7_1).f6) ((rd_T38 l0 x7_1).f7)) else (partitaref10_Check.j1 k1 l0 x4_1 x5_1 x6_1 x7_1 x6_1 ((rd_T38 l0 x7_1).f0) ((rd_T38 l0 x7_1).f1) ((rd_T38 l0 x7_1).f2) false ((rd_T38 l0 x7_1).f4) ((rd_T38 l0 x7_1).f5) ((rd_T38 l0 x7_1).f6) ((rd_T38 l0 x7_1).f7)))) else (if ((rd_T38 l0 x7_1).f7) = 0 then (partitaref10_Check.j1 k1 l0 x4_1 x5_1 x6_1 x7_1 false ((rd_T38 l0 x7_1).f0) ((rd_T38 l0 x7_1).f1) ((rd_T38 l0 x7_1).f2) false ((rd_T38 l0 x7_1).f4) ((rd_T38 l0 x7_1).f5) ((rd_T38 l0 x7_1).f6) ((rd_T38 l0 x7_1).f7)) else (partitaref10_Check.j1 k1 l0 x4_1 x5_1 x6_1 x7_1 x6_1 ((rd_T38 l0 x7_1).f0) ((rd_T38 l0 x7_1).f1) ((rd_T38 l0 x7_1).f2) false ((rd_T38 l0 x7_1).f4) ((rd_T38 l0 x7_1).f5) ((rd_T38 l0 x7_1).f6) ((rd_T38 l0 x7_1).f7)))) = some (r1, r2) := by rw [if_neg (show ¬ (false = true) by decide)] at H; exact H
          clear H
          have H := H1
          clear H1
          obtain ⟨bq35, hbq35⟩ : ∃ b_ : Bool, b_ = ((rd_T38 l0 x7_1).f4) := ⟨_, rfl⟩
          replace H : (if bq35 = true then (if x5_1 = true then (partitaref10_Check.j1 k1 l0 x4_1 x5_1 x6_1 x7_1 true ((rd_T38 l0 x7_1).f0) ((rd_T38 l0 x7_1).f1) ((rd_T38 l0 x7_1).f2) false bq35 ((rd_T38 l0 x7_1).f5) ((rd_T38 l0 x7_1).f6) ((rd_T38 l0 x7_1).f7)) else (if ((rd_T38 l0 x7_1).f7) = 0 then (partitaref10_Check.j1 k1 l0 x4_1 x5_1 x6_1 x7_1 false ((rd_T38 l0 x7_1).f0) ((rd_T38 l0 x7_1).f1) ((rd_T38 l0 x7_1).f2) false bq35 ((rd_T38 l0 x7_1).f5) ((rd_T38 l0 x7_1).f6) ((rd_T38 l0 x7_1).f7)) else (partitaref10_Check.j1 k1 l0 x4_1 x5_1 x6_1 x7_1 x6_1 ((rd_T38 l0 x7_1).f0) ((rd_T38 l0 x7_1).f1) ((rd_T38 l0 x7_1).f2) false bq35 ((rd_T38 l0 x7_1).f5) ((rd_T38 l0 x7_1).f6) ((rd_T38 l0 x7_1).f7)))) else (if ((rd_T38 l0 x7_1).f7) = 0 then (partitaref10_Check.j1 k1 l0 x4_1 x5_1 x6_1 x7_1 false ((rd_T38 l0 x7_1).f0) ((rd_T38 l0 x7_1).f1) ((rd_T38 l0 x7_1).f2) false bq35 ((rd_T38 l0 x7_1).f5) ((rd_T38 l0 x7_1).f6) ((rd_T38 l0 x7_1).f7)) else (partitaref10_Check.j1 k1 l0 x4_1 x5_1 x6_1 x7_1 x6_1 ((rd_T38 l0 x7_1).f0) ((rd_T38 l0 x7_1).f1) ((rd_T38 l0 x7_1).f2) false bq35 ((rd_T38 l0 x7_1).f5) ((rd_T38 l0 x7_1).f6) ((rd_T38 l0 x7_1).f7)))) = some (r1, r2) := by rw [← hbq35] at H; exact H
          have Nbq35 := Aside0.mk hbq35
          clear hbq35
          (try rw [← Nbq35.out])
          (try rw [← Nbq35.out] at A7)
          by_cases c36 : bq35 = true
          rotate_left
          · replace c36 := Bool.eq_false_iff.mpr c36
            subst c36
            have H1 : (if ((rd_T38 l0 x7_1).f7) = 0 then (partitaref10_Check.j1 k1 l0 x4_1 x5_1 x6_1 x7_1 false ((rd_T38 l0 x7_1).f0) ((rd_T38 l0 x7_1).f1) ((rd_T38 l0 x7_1).f2) false false ((rd_T38 l0 x7_1).f5) ((rd_T38 l0 x7_1).f6) ((rd_T38 l0 x7_1).f7)) else (partitaref10_Check.j1 k1 l0 x4_1 x5_1 x6_1 x7_1 x6_1 ((rd_T38 l0 x7_1).f0) ((rd_T38 l0 x7_1).f1) ((rd_T38 l0 x7_1).f2) false false ((rd_T38 l0 x7_1).f5) ((rd_T38 l0 x7_1).f6) ((rd_T38 l0 x7_1).f7))) = some (r1, r2) := by rw [if_neg (show ¬ (false = true) by decide)] at H; exact H
            clear H
            have H := H1
            clear H1
            by_cases c48 : ((rd_T38 l0 x7_1).f7) = 0
            rotate_left
            · rw [if_neg c48] at H
              have c48b0 : (((rd_T38 l0 x7_1).f7) == 0) = false := beq_eq_false_iff_ne.mpr c48
              have c48b1 : (((rd_T38 l0 x7_1).f7) != 0) = true := bne_iff_ne.mpr c48
              have H' := Aside0.mk H
              clear H
              have hz52 := cells8 BK102.out
              go_wp2_with (first | ((with_reducible refine gate_callee (f := 31) rfl ?_); refine goesL_ (some 22) rfl rfl Try.func31 (by kernel_rfl) rfl #[.agg #[.bool ((rd_T38 l0 x7_1).f0), .int .i64 ((rd_T38 l0 x7_1).f1), .slice A101_2 ((rd_T38 l0 x7_1).f2).length c101_2, .bool false, .bool false, .bool ((rd_T38 l0 x7_1).f5), .bool ((rd_T38 l0 x7_1).f6), .int .i64 ((rd_T38 l0 x7_1).f7)]] rfl qq4 ?_; (with_reducible refine (partitaref10_right.calls k1 ((rd_T38 l0 x7_1).f0) ((rd_T38 l0 x7_1).f1) _ _ ((rd_T38 l0 x7_1).f2) false false ((rd_T38 l0 x7_1).f5) ((rd_T38 l0 x7_1).f6) ((rd_T38 l0 x7_1).f7) true _ ?side1 ?side2 A7.out).mono ?_); (case side1 => exact qqm); (case side2 => exact HC101_2.out); rintro e w53 ⟨rfl, hb⟩; refine ⟨_, rfl, ?_⟩; replace BK102 := Aside0.mk (blk_below (g := gb102) (o := .cells #[.bool ((rd_T38 l0 x7_1).f0), .int .i64 ((rd_T38 l0 x7_1).f1), .slice A101_2 ((rd_T38 l0 x7_1).f2).length c101_2, .bool false, .bool false, .bool ((rd_T38 l0 x7_1).f5), .bool ((rd_T38 l0 x7_1).f6), .int .i64 ((rd_T38 l0 x7_1).f7)] 38 (0, 0)) (by refine bq ?_; refine blk_put (cs := #[.bool ((rd_T38 l0 x7_1).f0), .int .i64 ((rd_T38 l0 x7_1).f1), .slice A101_2 ((rd_T38 l0 x7_1).f2).length c101_2, .bool (false), .bool (false), .bool ((rd_T38 l0 x7_1).f5), .bool ((rd_T38 l0 x7_1).f6), .int .i64 0]) ?_ 7 _ rfl; refine bq ?_; refine blk_put (cs := #[.bool ((rd_T38 l0 x7_1).f0), .int .i64 ((rd_T38 l0 x7_1).f1), .slice A101_2 ((rd_T38 l0 x7_1).f2).length c101_2, .bool (false), .bool (false), .bool ((rd_T38 l0 x7_1).f5), .bool false, .int .i64 0]) ?_ 6 _ rfl; refine bq ?_; refine blk_put (cs := #[.bool ((rd_T38 l0 x7_1).f0), .int .i64 ((rd_T38 l0 x7_1).f1), .slice A101_2 ((rd_T38 l0 x7_1).f2).length c101_2, .bool (false), .bool (false), .bool false, .bool false, .int .i64 0]) ?_ 5 _ rfl; refine bq ?_; refine blk_put (cs := #[.bool ((rd_T38 l0 x7_1).f0), .int .i64 ((rd_T38 l0 x7_1).f1), .slice A101_2 ((rd_T38 l0 x7_1).f2).length c101_2, .bool (false), .bool false, .bool false, .bool false, .int .i64 0]) ?_ 4 _ rfl; refine bq ?_; refine blk_put (cs := #[.bool ((rd_T38 l0 x7_1).f0), .int .i64 ((rd_T38 l0 x7_1).f1), .slice A101_2 ((rd_T38 l0 x7_1).f2).length c101_2, .bool false, .bool false, .bool false, .bool false, .int .i64 0]) ?_ 3 _ rfl; refine bq ?_; refine blk_put (cs := #[.bool ((rd_T38 l0 x7_1).f0), .int .i64 ((rd_T38 l0 x7_1).f1), .slice none 0 0, .bool false, .bool false, .bool false, .bool false, .int .i64 0]) ?_ 2 _ rfl; refine bq ?_; refine blk_put (cs := #[.bool ((rd_T38 l0 x7_1).f0), .int .i64 0, .slice none 0 0, .bool false, .bool false, .bool false, .bool false, .int .i64 0]) ?_ 1 _ rfl; refine bq ?_; refine blk_put (cs := #[.bool false, .int .i64 0, .slice none 0 0, .bool false, .bool false, .bool false, .bool false, .int .i64 0]) ?_ 0 _ rfl; exact bq BK102.out) hb); replace HB := Aside0.mk (below_step (qS1 GE102 HB.out) hb); have hz54 := cells8 BK102.out))
              go_meet
              case rel => (try rw [← Nbq9.out]); (try rw [← Nbq35.out]); exact ⟨_, (x6_1), (by first | rfl), H', ⟨qqf⟩, ⟨bq BK102.out⟩, ⟨qS1 GE102 HB.out⟩⟩
            rw [if_pos c48] at H
            have c48b0 : (((rd_T38 l0 x7_1).f7) == 0) = true := beq_iff_eq.mpr c48
            have c48b1 : (((rd_T38 l0 x7_1).f7) != 0) = false := bne_eq_false_iff_eq.mpr c48
            clear c48
            have H' := Aside0.mk H
            clear H
            have hz49 := cells8 BK102.out
            go_wp2_with (first | ((with_reducible refine gate_callee (f := 31) rfl ?_); refine goesL_ (some 22) rfl rfl Try.func31 (by kernel_rfl) rfl #[.agg #[.bool ((rd_T38 l0 x7_1).f0), .int .i64 ((rd_T38 l0 x7_1).f1), .slice A101_2 ((rd_T38 l0 x7_1).f2).length c101_2, .bool false, .bool false, .bool ((rd_T38 l0 x7_1).f5), .bool ((rd_T38 l0 x7_1).f6), .int .i64 ((rd_T38 l0 x7_1).f7)]] rfl qq4 ?_; (with_reducible refine (partitaref10_right.calls k1 ((rd_T38 l0 x7_1).f0) ((rd_T38 l0 x7_1).f1) _ _ ((rd_T38 l0 x7_1).f2) false false ((rd_T38 l0 x7_1).f5) ((rd_T38 l0 x7_1).f6) ((rd_T38 l0 x7_1).f7) true _ ?side1 ?side2 A7.out).mono ?_); (case side1 => exact qqm); (case side2 => exact HC101_2.out); rintro e w50 ⟨rfl, hb⟩; refine ⟨_, rfl, ?_⟩; replace BK102 := Aside0.mk (blk_below (g := gb102) (o := .cells #[.bool ((rd_T38 l0 x7_1).f0), .int .i64 ((rd_T38 l0 x7_1).f1), .slice A101_2 ((rd_T38 l0 x7_1).f2).length c101_2, .bool false, .bool false, .bool ((rd_T38 l0 x7_1).f5), .bool ((rd_T38 l0 x7_1).f6), .int .i64 ((rd_T38 l0 x7_1).f7)] 38 (0, 0)) (by refine bq ?_; refine blk_put (cs := #[.bool ((rd_T38 l0 x7_1).f0), .int .i64 ((rd_T38 l0 x7_1).f1), .slice A101_2 ((rd_T38 l0 x7_1).f2).length c101_2, .bool (false), .bool (false), .bool ((rd_T38 l0 x7_1).f5), .bool ((rd_T38 l0 x7_1).f6), .int .i64 0]) ?_ 7 _ rfl; refine bq ?_; refine blk_put (cs := #[.bool ((rd_T38 l0 x7_1).f0), .int .i64 ((rd_T38 l0 x7_1).f1), .slice A101_2 ((rd_T38 l0 x7_1).f2).length c101_2, .bool (false), .bool (false), .bool ((rd_T38 l0 x7_1).f5), .bool false, .int .i64 0]) ?_ 6 _ rfl; refine bq ?_; refine blk_put (cs := #[.bool ((rd_T38 l0 x7_1).f0), .int .i64 ((rd_T38 l0 x7_1).f1), .slice A101_2 ((rd_T38 l0 x7_1).f2).length c101_2, .bool (false), .bool (false), .bool false, .bool false, .int .i64 0]) ?_ 5 _ rfl; refine bq ?_; refine blk_put (cs := #[.bool ((rd_T38 l0 x7_1).f0), .int .i64 ((rd_T38 l0 x7_1).f1), .slice A101_2 ((rd_T38 l0 x7_1).f2).length c101_2, .bool (false), .bool false, .bool false, .bool false, .int .i64 0]) ?_ 4 _ rfl; refine bq ?_; refine blk_put (cs := #[.bool ((rd_T38 l0 x7_1).f0), .int .i64 ((rd_T38 l0 x7_1).f1), .slice A101_2 ((rd_T38 l0 x7_1).f2).length c101_2, .bool false, .bool false, .bool false, .bool false, .int .i64 0]) ?_ 3 _ rfl; refine bq ?_; refine blk_put (cs := #[.bool ((rd_T38 l0 x7_1).f0), .int .i64 ((rd_T38 l0 x7_1).f1), .slice none 0 0, .bool false, .bool false, .bool false, .bool false, .int .i64 0]) ?_ 2 _ rfl; refine bq ?_; refine blk_put (cs := #[.bool ((rd_T38 l0 x7_1).f0), .int .i64 0, .slice none 0 0, .bool false, .bool false, .bool false, .bool false, .int .i64 0]) ?_ 1 _ rfl; refine bq ?_; refine blk_put (cs := #[.bool false, .int .i64 0, .slice none 0 0, .bool false, .bool false, .bool false, .bool false, .int .i64 0]) ?_ 0 _ rfl; exact bq BK102.out) hb); replace HB := Aside0.mk (below_step (qS1 GE102 HB.out) hb); have hz51 := cells8 BK102.out))
            go_meet
            case rel => (try rw [← Nbq9.out]); (try rw [← Nbq35.out]); exact ⟨_, (false), (by first | rfl), H', ⟨qqf⟩, ⟨bq BK102.out⟩, ⟨qS1 GE102 HB.out⟩⟩
          subst c36
          have H1 : (if x5_1 = true then (partitaref10_Check.j1 k1 l0 x4_1 x5_1 x6_1 x7_1 true ((rd_T38 l0 x7_1).f0) ((rd_T38 l0 x7_1).f1) ((rd_T38 l0 x7_1).f2) false true ((rd_T38 l0 x7_1).f5) ((rd_T38 l0 x7_1).f6) ((rd_T38 l0 x7_1).f7)) else (if ((rd_T38 l0 x7_1).f7) = 0 then (partitaref10_Check.j1 k1 l0 x4_1 x5_1 x6_1 x7_1 false ((rd_T38 l0 x7_1).f0) ((rd_T38 l0 x7_1).f1) ((rd_T38 l0 x7_1).f2) false true ((rd_T38 l0 x7_1).f5) ((rd_T38 l0 x7_1).f6) ((rd_T38 l0 x7_1).f7)) else (partitaref10_Check.j1 k1 l0 x4_1 x5_1 x6_1 x7_1 x6_1 ((rd_T38 l0 x7_1).f0) ((rd_T38 l0 x7_1).f1) ((rd_T38 l0 x7_1).f2) false true ((rd_T38 l0 x7_1).f5) ((rd_T38 l0 x7_1).f6) ((rd_T38 l0 x7_1).f7)))) = some (r1, r2) := by rw [if_pos rfl] at H; exact H
          clear H
          have H := H1
          clear H1
          by_cases c37 : x5_1 = true
          · subst c37
            have H1 : (partitaref10_Check.j1 k1 l0 x4_1 true x6_1 x7_1 true ((rd_T38 l0 x7_1).f0) ((rd_T38 l0 x7_1).f1) ((rd_T38 l0 x7_1).f2) false true ((rd_T38 l0 x7_1).f5) ((rd_T38 l0 x7_1).f6) ((rd_T38 l0 x7_1).f7)) = some (r1, r2) := by rw [if_pos rfl] at H; exact H
            clear H
            have H := H1
            clear H1
            have H' := Aside0.mk H
            clear H
            have hz38 := cells8 BK102.out
            go_wp2_with (first | ((with_reducible refine gate_callee (f := 31) rfl ?_); refine goesL_ (some 22) rfl rfl Try.func31 (by kernel_rfl) rfl #[.agg #[.bool ((rd_T38 l0 x7_1).f0), .int .i64 ((rd_T38 l0 x7_1).f1), .slice A101_2 ((rd_T38 l0 x7_1).f2).length c101_2, .bool false, .bool true, .bool ((rd_T38 l0 x7_1).f5), .bool ((rd_T38 l0 x7_1).f6), .int .i64 ((rd_T38 l0 x7_1).f7)]] rfl qq4 ?_; (with_reducible refine (partitaref10_right.calls k1 ((rd_T38 l0 x7_1).f0) ((rd_T38 l0 x7_1).f1) _ _ ((rd_T38 l0 x7_1).f2) false true ((rd_T38 l0 x7_1).f5) ((rd_T38 l0 x7_1).f6) ((rd_T38 l0 x7_1).f7) true _ ?side1 ?side2 A7.out).mono ?_); (case side1 => exact qqm); (case side2 => exact HC101_2.out); rintro e w39 ⟨rfl, hb⟩; refine ⟨_, rfl, ?_⟩; replace BK102 := Aside0.mk (blk_below (g := gb102) (o := .cells #[.bool ((rd_T38 l0 x7_1).f0), .int .i64 ((rd_T38 l0 x7_1).f1), .slice A101_2 ((rd_T38 l0 x7_1).f2).length c101_2, .bool false, .bool true, .bool ((rd_T38 l0 x7_1).f5), .bool ((rd_T38 l0 x7_1).f6), .int .i64 ((rd_T38 l0 x7_1).f7)] 38 (0, 0)) (by refine bq ?_; refine blk_put (cs := #[.bool ((rd_T38 l0 x7_1).f0), .int .i64 ((rd_T38 l0 x7_1).f1), .slice A101_2 ((rd_T38 l0 x7_1).f2).length c101_2, .bool (false), .bool (true), .bool ((rd_T38 l0 x7_1).f5), .bool ((rd_T38 l0 x7_1).f6), .int .i64 0]) ?_ 7 _ rfl; refine bq ?_; refine blk_put (cs := #[.bool ((rd_T38 l0 x7_1).f0), .int .i64 ((rd_T38 l0 x7_1).f1), .slice A101_2 ((rd_T38 l0 x7_1).f2).length c101_2, .bool (false), .bool (true), .bool ((rd_T38 l0 x7_1).f5), .bool false, .int .i64 0]) ?_ 6 _ rfl; refine bq ?_; refine blk_put (cs := #[.bool ((rd_T38 l0 x7_1).f0), .int .i64 ((rd_T38 l0 x7_1).f1), .slice A101_2 ((rd_T38 l0 x7_1).f2).length c101_2, .bool (false), .bool (true), .bool false, .bool false, .int .i64 0]) ?_ 5 _ rfl; refine bq ?_; refine blk_put (cs := #[.bool ((rd_T38 l0 x7_1).f0), .int .i64 ((rd_T38 l0 x7_1).f1), .slice A101_2 ((rd_T38 l0 x7_1).f2).length c101_2, .bool (false), .bool false, .bool false, .bool false, .int .i64 0]) ?_ 4 _ rfl; refine bq ?_; refine blk_put (cs := #[.bool ((rd_T38 l0 x7_1).f0), .int .i64 ((rd_T38 l0 x7_1).f1), .slice A101_2 ((rd_T38 l0 x7_1).f2).length c101_2, .bool false, .bool false, .bool false, .bool false, .int .i64 0]) ?_ 3 _ rfl; refine bq ?_; refine blk_put (cs := #[.bool ((rd_T38 l0 x7_1).f0), .int .i64 ((rd_T38 l0 x7_1).f1), .slice none 0 0, .bool false, .bool false, .bool false, .bool false, .int .i64 0]) ?_ 2 _ rfl; refine bq ?_; refine blk_put (cs := #[.bool ((rd_T38 l0 x7_1).f0), .int .i64 0, .slice none 0 0, .bool false, .bool false, .bool false, .bool false, .int .i64 0]) ?_ 1 _ rfl; refine bq ?_; refine blk_put (cs := #[.bool false, .int .i64 0, .slice none 0 0, .bool false, .bool false, .bool false, .bool false, .int .i64 0]) ?_ 0 _ rfl; exact bq BK102.out) hb); replace HB := Aside0.mk (below_step (qS1 GE102 HB.out) hb); have hz40 := cells8 BK102.out))
            go_meet
            case rel => (try rw [← Nbq9.out]); (try rw [← Nbq35.out]); exact ⟨_, (true), (by first | rfl), H', ⟨qqf⟩, ⟨bq BK102.out⟩, ⟨qS1 GE102 HB.out⟩⟩
          replace c37 := Bool.eq_false_iff.mpr c37
          subst c37
          have H1 : (if ((rd_T38 l0 x7_1).f7) = 0 then (partitaref10_Check.j1 k1 l0 x4_1 false x6_1 x7_1 false ((rd_T38 l0 x7_1).f0) ((rd_T38 l0 x7_1).f1) ((rd_T38 l0 x7_1).f2) false true ((rd_T38 l0 x7_1).f5) ((rd_T38 l0 x7_1).f6) ((rd_T38 l0 x7_1).f7)) else (partitaref10_Check.j1 k1 l0 x4_1 false x6_1 x7_1 x6_1 ((rd_T38 l0 x7_1).f0) ((rd_T38 l0 x7_1).f1) ((rd_T38 l0 x7_1).f2) false true ((rd_T38 l0 x7_1).f5) ((rd_T38 l0 x7_1).f6) ((rd_T38 l0 x7_1).f7))) = some (r1, r2) := by rw [if_neg (show ¬ (false = true) by decide)] at H; exact H
          clear H
          have H := H1
          clear H1
          by_cases c41 : ((rd_T38 l0 x7_1).f7) = 0
          rotate_left
          · rw [if_neg c41] at H
            have c41b0 : (((rd_T38 l0 x7_1).f7) == 0) = false := beq_eq_false_iff_ne.mpr c41
            have c41b1 : (((rd_T38 l0 x7_1).f7) != 0) = true := bne_iff_ne.mpr c41
            have H' := Aside0.mk H
            clear H
            have hz45 := cells8 BK102.out
            go_wp2_with (first | ((with_reducible refine gate_callee (f := 31) rfl ?_); refine goesL_ (some 22) rfl rfl Try.func31 (by kernel_rfl) rfl #[.agg #[.bool ((rd_T38 l0 x7_1).f0), .int .i64 ((rd_T38 l0 x7_1).f1), .slice A101_2 ((rd_T38 l0 x7_1).f2).length c101_2, .bool false, .bool true, .bool ((rd_T38 l0 x7_1).f5), .bool ((rd_T38 l0 x7_1).f6), .int .i64 ((rd_T38 l0 x7_1).f7)]] rfl qq4 ?_; (with_reducible refine (partitaref10_right.calls k1 ((rd_T38 l0 x7_1).f0) ((rd_T38 l0 x7_1).f1) _ _ ((rd_T38 l0 x7_1).f2) false true ((rd_T38 l0 x7_1).f5) ((rd_T38 l0 x7_1).f6) ((rd_T38 l0 x7_1).f7) true _ ?side1 ?side2 A7.out).mono ?_); (case side1 => exact qqm); (case side2 => exact HC101_2.out); rintro e w46 ⟨rfl, hb⟩; refine ⟨_, rfl, ?_⟩; replace BK102 := Aside0.mk (blk_below (g := gb102) (o := .cells #[.bool ((rd_T38 l0 x7_1).f0), .int .i64 ((rd_T38 l0 x7_1).f1), .slice A101_2 ((rd_T38 l0 x7_1).f2).length c101_2, .bool false, .bool true, .bool ((rd_T38 l0 x7_1).f5), .bool ((rd_T38 l0 x7_1).f6), .int .i64 ((rd_T38 l0 x7_1).f7)] 38 (0, 0)) (by refine bq ?_; refine blk_put (cs := #[.bool ((rd_T38 l0 x7_1).f0), .int .i64 ((rd_T38 l0 x7_1).f1), .slice A101_2 ((rd_T38 l0 x7_1).f2).length c101_2, .bool (false), .bool (true), .bool ((rd_T38 l0 x7_1).f5), .bool ((rd_T38 l0 x7_1).f6), .int .i64 0]) ?_ 7 _ rfl; refine bq ?_; refine blk_put (cs := #[.bool ((rd_T38 l0 x7_1).f0), .int .i64 ((rd_T38 l0 x7_1).f1), .slice A101_2 ((rd_T38 l0 x7_1).f2).length c101_2, .bool (false), .bool (true), .bool ((rd_T38 l0 x7_1).f5), .bool false, .int .i64 0]) ?_ 6 _ rfl; refine bq ?_; refine blk_put (cs := #[.bool ((rd_T38 l0 x7_1).f0), .int .i64 ((rd_T38 l0 x7_1).f1), .slice A101_2 ((rd_T38 l0 x7_1).f2).length c101_2, .bool (false), .bool (true), .bool false, .bool false, .int .i64 0]) ?_ 5 _ rfl; refine bq ?_; refine blk_put (cs := #[.bool ((rd_T38 l0 x7_1).f0), .int .i64 ((rd_T38 l0 x7_1).f1), .slice A101_2 ((rd_T38 l0 x7_1).f2).length c101_2, .bool (false), .bool false, .bool false, .bool false, .int .i64 0]) ?_ 4 _ rfl; refine bq ?_; refine blk_put (cs := #[.bool ((rd_T38 l0 x7_1).f0), .int .i64 ((rd_T38 l0 x7_1).f1), .slice A101_2 ((rd_T38 l0 x7_1).f2).length c101_2, .bool false, .bool false, .bool false, .bool false, .int .i64 0]) ?_ 3 _ rfl; refine bq ?_; refine blk_put (cs := #[.bool ((rd_T38 l0 x7_1).f0), .int .i64 ((rd_T38 l0 x7_1).f1), .slice none 0 0, .bool false, .bool false, .bool false, .bool false, .int .i64 0]) ?_ 2 _ rfl; refine bq ?_; refine blk_put (cs := #[.bool ((rd_T38 l0 x7_1).f0), .int .i64 0, .slice none 0 0, .bool false, .bool false, .bool false, .bool false, .int .i64 0]) ?_ 1 _ rfl; refine bq ?_; refine blk_put (cs := #[.bool false, .int .i64 0, .slice none 0 0, .bool false, .bool false, .bool false, .bool false, .int .i64 0]) ?_ 0 _ rfl; exact bq BK102.out) hb); replace HB := Aside0.mk (below_step (qS1 GE102 HB.out) hb); have hz47 := cells8 BK102.out))
            go_meet
            case rel => (try rw [← Nbq9.out]); (try rw [← Nbq35.out]); exact ⟨_, (x6_1), (by first | rfl), H', ⟨qqf⟩, ⟨bq BK102.out⟩, ⟨qS1 GE102 HB.out⟩⟩
          rw [if_pos c41] at H
          have c41b0 : (((rd_T38 l0 x7_1).f7) == 0) = true := beq_iff_eq.mpr c41
          have c41b1 : (((rd_T38 l0 x7_1).f7) != 0) = false := bne_eq_false_iff_eq.mpr c41
          clear c41
          have H' := Aside0.mk H
          clear H
          have hz42 := cells8 BK102.out
          go_wp2_with (first | ((with_reducible refine gate_callee (f := 31) rfl ?_); refine goesL_ (some 22) rfl rfl Try.func31 (by kernel_rfl) rfl #[.agg #[.bool ((rd_T38 l0 x7_1).f0), .int .i64 ((rd_T38 l0 x7_1).f1), .slice A101_2 ((rd_T38 l0 x7_1).f2).length c101_2, .bool false, .bool true, .bool ((rd_T38 l0 x7_1).f5), .bool ((rd_T38 l0 x7_1).f6), .int .i64 ((rd_T38 l0 x7_1).f7)]] rfl qq4 ?_; (with_reducible refine (partitaref10_right.calls k1 ((rd_T38 l0 x7_1).f0) ((rd_T38 l0 x7_1).f1) _ _ ((rd_T38 l0 x7_1).f2) false true ((rd_T38 l0 x7_1).f5) ((rd_T38 l0 x7_1).f6) ((rd_T38 l0 x7_1).f7) true _ ?side1 ?side2 A7.out).mono ?_); (case side1 => exact qqm); (case side2 => exact HC101_2.out); rintro e w43 ⟨rfl, hb⟩; refine ⟨_, rfl, ?_⟩; replace BK102 := Aside0.mk (blk_below (g := gb102) (o := .cells #[.bool ((rd_T38 l0 x7_1).f0), .int .i64 ((rd_T38 l0 x7_1).f1), .slice A101_2 ((rd_T38 l0 x7_1).f2).length c101_2, .bool false, .bool true, .bool ((rd_T38 l0 x7_1).f5), .bool ((rd_T38 l0 x7_1).f6), .int .i64 ((rd_T38 l0 x7_1).f7)] 38 (0, 0)) (by refine bq ?_; refine blk_put (cs := #[.bool ((rd_T38 l0 x7_1).f0), .int .i64 ((rd_T38 l0 x7_1).f1), .slice A101_2 ((rd_T38 l0 x7_1).f2).length c101_2, .bool (false), .bool (true), .bool ((rd_T38 l0 x7_1).f5), .bool ((rd_T38 l0 x7_1).f6), .int .i64 0]) ?_ 7 _ rfl; refine bq ?_; refine blk_put (cs := #[.bool ((rd_T38 l0 x7_1).f0), .int .i64 ((rd_T38 l0 x7_1).f1), .slice A101_2 ((rd_T38 l0 x7_1).f2).length c101_2, .bool (false), .bool (true), .bool ((rd_T38 l0 x7_1).f5), .bool false, .int .i64 0]) ?_ 6 _ rfl; refine bq ?_; refine blk_put (cs := #[.bool ((rd_T38 l0 x7_1).f0), .int .i64 ((rd_T38 l0 x7_1).f1), .slice A101_2 ((rd_T38 l0 x7_1).f2).length c101_2, .bool (false), .bool (true), .bool false, .bool false, .int .i64 0]) ?_ 5 _ rfl; refine bq ?_; refine blk_put (cs := #[.bool ((rd_T38 l0 x7_1).f0), .int .i64 ((rd_T38 l0 x7_1).f1), .slice A101_2 ((rd_T38 l0 x7_1).f2).length c101_2, .bool (false), .bool false, .bool false, .bool false, .int .i64 0]) ?_ 4 _ rfl; refine bq ?_; refine blk_put (cs := #[.bool ((rd_T38 l0 x7_1).f0), .int .i64 ((rd_T38 l0 x7_1).f1), .slice A101_2 ((rd_T38 l0 x7_1).f2).length c101_2, .bool false, .bool false, .bool false, .bool false, .int .i64 0]) ?_ 3 _ rfl; refine bq ?_; refine blk_put (cs := #[.bool ((rd_T38 l0 x7_1).f0), .int .i64 ((rd_T38 l0 x7_1).f1), .slice none 0 0, .bool false, .bool false, .bool false, .bool false, .int .i64 0]) ?_ 2 _ rfl; refine bq ?_; refine blk_put (cs := #[.bool ((rd_T38 l0 x7_1).f0), .int .i64 0, .slice none 0 0, .bool false, .bool false, .bool false, .bool false, .int .i64 0]) ?_ 1 _ rfl; refine bq ?_; refine blk_put (cs := #[.bool false, .int .i64 0, .slice none 0 0, .bool false, .bool false, .bool false, .bool false, .int .i64 0]) ?_ 0 _ rfl; exact bq BK102.out) hb); replace HB := Aside0.mk (below_step (qS1 GE102 HB.out) hb); have hz44 := cells8 BK102.out))
          go_meet
          case rel => (try rw [← Nbq9.out]); (try rw [← Nbq35.out]); exact ⟨_, (false), (by first | rfl), H', ⟨qqf⟩, ⟨bq BK102.out⟩, ⟨qS1 GE102 HB.out⟩⟩
        subst c10
        have H1 : (if x4_1 = true then (partitaref10_Check.j1 k1 l0 x4_1 x5_1 x6_1 x7_1 true ((rd_T38 l0 x7_1).f0) ((rd_T38 l0 x7_1).f1) ((rd_T38 l0 x7_1).f2) true ((rd_T38 l0 x7_1).f4) ((rd_T38 l0 x7_1).f5) ((rd_T38 l0 x7_1).f6) ((rd_T38 l0 x7_1).f7)) else (if (rd_T38 l0 x7_1).f4 = true then (if x5_1 = true then (partitaref10_Check.j1 k1 l0 x4_1 x5_1 x6_1 x7_1 true ((rd_T38 l0 x7_1).f0) ((rd_T38 l0 x7_1).f1) ((rd_T38 l0 x7_1).f2) true ((rd_T38 l0 x7_1).f4) ((rd_T38 l0 x7_1).f5) ((rd_T38 l0 x7_1).f6) ((rd_T38 l0 x7_1).f7)) else (if ((rd_T38 l0 x7_1).f7) = 0 then (partitaref10_Check.j1 k1 l0 x4_1 x5_1 x6_1 x7_1 false ((rd_T38 l0 x7_1).f0) ((rd_T38 l0 x7_1).f1) ((rd_T38 l0 x7_1).f2) true ((rd_T38 l0 x7_1).f4) ((rd_T38 l0 x7_1).f5) ((rd_T38 l0 x7_1).f6) ((rd_T38 l0 x7_1).f7)) else (partitaref10_Check.j1 k1 l0 x4_1 x5_1 x6_1 x7_1 x6_1 ((rd_T38 l0 x7_1).f0) ((rd_T38 l0 x7_1).f1) ((rd_T38 l0 x7_1).f2) true ((rd_T38 l0 x7_1).f4) ((rd_T38 l0 x7_1).f5) ((rd_T38 l0 x7_1).f6) ((rd_T38 l0 x7_1).f7)))) else (if ((rd_T38 l0 x7_1).f7) = 0 then (partitaref10_Check.j1 k1 l0 x4_1 x5_1 x6_1 x7_1 false ((rd_T38 l0 x7_1).f0) ((rd_T38 l0 x7_1).f1) ((rd_T38 l0 x7_1).f2) true ((rd_T38 l0 x7_1).f4) ((rd_T38 l0 x7_1).f5) ((rd_T38 l0 x7_1).f6) ((rd_T38 l0 x7_1).f7)) else (partitaref10_Check.j1 k1 l0 x4_1 x5_1 x6_1 x7_1 x6_1 ((rd_T38 l0 x7_1).f0) ((rd_T38 l0 x7_1).f1) ((rd_T38 l0 x7_1).f2) true ((rd_T38 l0 x7_1).f4) ((rd_T38 l0 x7_1).f5) ((rd_T38 l0 x7_1).f6) ((rd_T38 l0 x7_1).f7))))) = some (r1, r2) := by rw [if_pos rfl] at H; exact H
        clear H
        have H := H1
        clear H1
        by_cases c11 : x4_1 = true
        · subst c11
          have H1 : (partitaref10_Check.j1 k1 l0 true x5_1 x6_1 x7_1 true ((rd_T38 l0 x7_1).f0) ((rd_T38 l0 x7_1).f1) ((rd_T38 l0 x7_1).f2) true ((rd_T38 l0 x7_1).f4) ((rd_T38 l0 x7_1).f5) ((rd_T38 l0 x7_1).f6) ((rd_T38 l0 x7_1).f7)) = some (r1, r2) := by rw [if_pos rfl] at H; exact H
          clear H
          have H := H1
          clear H1
          have H' := Aside0.mk H
          clear H
          have hz12 := cells8 BK102.out
          go_wp2_with (first | ((with_reducible refine gate_callee (f := 31) rfl ?_); refine goesL_ (some 22) rfl rfl Try.func31 (by kernel_rfl) rfl #[.agg #[.bool ((rd_T38 l0 x7_1).f0), .int .i64 ((rd_T38 l0 x7_1).f1), .slice A101_2 ((rd_T38 l0 x7_1).f2).length c101_2, .bool true, .bool ((rd_T38 l0 x7_1).f4), .bool ((rd_T38 l0 x7_1).f5), .bool ((rd_T38 l0 x7_1).f6), .int .i64 ((rd_T38 l0 x7_1).f7)]] rfl qq4 ?_; (with_reducible refine (partitaref10_right.calls k1 ((rd_T38 l0 x7_1).f0) ((rd_T38 l0 x7_1).f1) _ _ ((rd_T38 l0 x7_1).f2) true ((rd_T38 l0 x7_1).f4) ((rd_T38 l0 x7_1).f5) ((rd_T38 l0 x7_1).f6) ((rd_T38 l0 x7_1).f7) true _ ?side1 ?side2 A7.out).mono ?_); (case side1 => exact qqm); (case side2 => exact HC101_2.out); rintro e w13 ⟨rfl, hb⟩; refine ⟨_, rfl, ?_⟩; replace BK102 := Aside0.mk (blk_below (g := gb102) (o := .cells #[.bool ((rd_T38 l0 x7_1).f0), .int .i64 ((rd_T38 l0 x7_1).f1), .slice A101_2 ((rd_T38 l0 x7_1).f2).length c101_2, .bool true, .bool ((rd_T38 l0 x7_1).f4), .bool ((rd_T38 l0 x7_1).f5), .bool ((rd_T38 l0 x7_1).f6), .int .i64 ((rd_T38 l0 x7_1).f7)] 38 (0, 0)) (by refine bq ?_; refine blk_put (cs := #[.bool ((rd_T38 l0 x7_1).f0), .int .i64 ((rd_T38 l0 x7_1).f1), .slice A101_2 ((rd_T38 l0 x7_1).f2).length c101_2, .bool (true), .bool ((rd_T38 l0 x7_1).f4), .bool ((rd_T38 l0 x7_1).f5), .bool ((rd_T38 l0 x7_1).f6), .int .i64 0]) ?_ 7 _ rfl; refine bq ?_; refine blk_put (cs := #[.bool ((rd_T38 l0 x7_1).f0), .int .i64 ((rd_T38 l0 x7_1).f1), .slice A101_2 ((rd_T38 l0 x7_1).f2).length c101_2, .bool (true), .bool ((rd_T38 l0 x7_1).f4), .bool ((rd_T38 l0 x7_1).f5), .bool false, .int .i64 0]) ?_ 6 _ rfl; refine bq ?_; refine blk_put (cs := #[.bool ((rd_T38 l0 x7_1).f0), .int .i64 ((rd_T38 l0 x7_1).f1), .slice A101_2 ((rd_T38 l0 x7_1).f2).length c101_2, .bool (true), .bool ((rd_T38 l0 x7_1).f4), .bool false, .bool false, .int .i64 0]) ?_ 5 _ rfl; refine bq ?_; refine blk_put (cs := #[.bool ((rd_T38 l0 x7_1).f0), .int .i64 ((rd_T38 l0 x7_1).f1), .slice A101_2 ((rd_T38 l0 x7_1).f2).length c101_2, .bool (true), .bool false, .bool false, .bool false, .int .i64 0]) ?_ 4 _ rfl; refine bq ?_; refine blk_put (cs := #[.bool ((rd_T38 l0 x7_1).f0), .int .i64 ((rd_T38 l0 x7_1).f1), .slice A101_2 ((rd_T38 l0 x7_1).f2).length c101_2, .bool false, .bool false, .bool false, .bool false, .int .i64 0]) ?_ 3 _ rfl; refine bq ?_; refine blk_put (cs := #[.bool ((rd_T38 l0 x7_1).f0), .int .i64 ((rd_T38 l0 x7_1).f1), .slice none 0 0, .bool false, .bool false, .bool false, .bool false, .int .i64 0]) ?_ 2 _ rfl; refine bq ?_; refine blk_put (cs := #[.bool ((rd_T38 l0 x7_1).f0), .int .i64 0, .slice none 0 0, .bool false, .bool false, .bool false, .bool false, .int .i64 0]) ?_ 1 _ rfl; refine bq ?_; refine blk_put (cs := #[.bool false, .int .i64 0, .slice none 0 0, .bool false, .bool false, .bool false, .bool false, .int .i64 0]) ?_ 0 _ rfl; exact bq BK102.out) hb); replace HB := Aside0.mk (below_step (qS1 GE102 HB.out) hb); have hz14 := cells8 BK102.out))
          go_meet
          case rel => (try rw [← Nbq9.out]); exact ⟨_, (true), (by first | rfl), H', ⟨qqf⟩, ⟨bq BK102.out⟩, ⟨qS1 GE102 HB.out⟩⟩
        replace c11 := Bool.eq_false_iff.mpr c11
        subst c11
        have H1 : (if (rd_T38 l0 x7_1).f4 = true then (if x5_1 = true then (partitaref10_Check.j1 k1 l0 false x5_1 x6_1 x7_1 true ((rd_T38 l0 x7_1).f0) ((rd_T38 l0 x7_1).f1) ((rd_T38 l0 x7_1).f2) true ((rd_T38 l0 x7_1).f4) ((rd_T38 l0 x7_1).f5) ((rd_T38 l0 x7_1).f6) ((rd_T38 l0 x7_1).f7)) else (if ((rd_T38 l0 x7_1).f7) = 0 then (partitaref10_Check.j1 k1 l0 false x5_1 x6_1 x7_1 false ((rd_T38 l0 x7_1).f0) ((rd_T38 l0 x7_1).f1) ((rd_T38 l0 x7_1).f2) true ((rd_T38 l0 x7_1).f4) ((rd_T38 l0 x7_1).f5) ((rd_T38 l0 x7_1).f6) ((rd_T38 l0 x7_1).f7)) else (partitaref10_Check.j1 k1 l0 false x5_1 x6_1 x7_1 x6_1 ((rd_T38 l0 x7_1).f0) ((rd_T38 l0 x7_1).f1) ((rd_T38 l0 x7_1).f2) true ((rd_T38 l0 x7_1).f4) ((rd_T38 l0 x7_1).f5) ((rd_T38 l0 x7_1).f6) ((rd_T38 l0 x7_1).f7)))) else (if ((rd_T38 l0 x7_1).f7) = 0 then (partitaref10_Check.j1 k1 l0 false x5_1 x6_1 x7_1 false ((rd_T38 l0 x7_1).f0) ((rd_T38 l0 x7_1).f1) ((rd_T38 l0 x7_1).f2) true ((rd_T38 l0 x7_1).f4) ((rd_T38 l0 x7_1).f5) ((rd_T38 l0 x7_1).f6) ((rd_T38 l0 x7_1).f7)) else (partitaref10_Check.j1 k1 l0 false x5_1 x6_1 x7_1 x6_1 ((rd_T38 l0 x7_1).f0) ((rd_T38 l0 x7_1).f1) ((rd_T38 l0 x7_1).f2) true ((rd_T38 l0 x7_1).f4) ((rd_T38 l0 x7_1).f5) ((rd_T38 l0 x7_1).f6) ((rd_T38 l0 x7_1).f7)))) = some (r1, r2) := by rw [if_neg (show ¬ (false = true) by decide)] at H; exact H
        clear H
        have H := H1
        clear H1
        obtain ⟨bq15, hbq15⟩ : ∃ b_ : Bool, b_ = ((rd_T38 l0 x7_1).f4) := ⟨_, rfl⟩
        replace H : (if bq15 = true then (if x5_1 = true then (partitaref10_Check.j1 k1 l0 false x5_1 x6_1 x7_1 true ((rd_T38 l0 x7_1).f0) ((rd_T38 l0 x7_1).f1) ((rd_T38 l0 x7_1).f2) true bq15 ((rd_T38 l0 x7_1).f5) ((rd_T38 l0 x7_1).f6) ((rd_T38 l0 x7_1).f7)) else (if ((rd_T38 l0 x7_1).f7) = 0 then (partitaref10_Check.j1 k1 l0 false x5_1 x6_1 x7_1 false ((rd_T38 l0 x7_1).f0) ((rd_T38 l0 x7_1).f1) ((rd_T38 l0 x7_1).f2) true bq15 ((rd_T38 l0 x7_1).f5) ((rd_T38 l0 x7_1).f6) ((rd_T38 l0 x7_1).f7)) else (partitaref10_Check.j1 k1 l0 false x5_1 x6_1 x7_1 x6_1 ((rd_T38 l0 x7_1).f0) ((rd_T38 l0 x7_1).f1) ((rd_T38 l0 x7_1).f2) true bq15 ((rd_T38 l0 x7_1).f5) ((rd_T38 l0 x7_1).f6) ((rd_T38 l0 x7_1).f7)))) else (if ((rd_T38 l0 x7_1).f7) = 0 then (partitaref10_Check.j1 k1 l0 false x5_1 x6_1 x7_1 false ((rd_T38 l0 x7_1).f0) ((rd_T38 l0 x7_1).f1) ((rd_T38 l0 x7_1).f2) true bq15 ((rd_T38 l0 x7_1).f5) ((rd_T38 l0 x7_1).f6) ((rd_T38 l0 x7_1).f7)) else (partitaref10_Check.j1 k1 l0 false x5_1 x6_1 x7_1 x6_1 ((rd_T38 l0 x7_1).f0) ((rd_T38 l0 x7_1).f1) ((rd_T38 l0 x7_1).f2) true bq15 ((rd_T38 l0 x7_1).f5) ((rd_T38 l0 x7_1).f6) ((rd_T38 l0 x7_1).f7)))) = some (r1, r2) := by rw [← hbq15] at H; exact H
        have Nbq15 := Aside0.mk hbq15
        clear hbq15
        (try rw [← Nbq15.out])
        (try rw [← Nbq15.out] at A7)
        by_cases c16 : bq15 = true
        rotate_left
        · replace c16 := Bool.eq_false_iff.mpr c16
          subst c16
          have H1 : (if ((rd_T38 l0 x7_1).f7) = 0 then (partitaref10_Check.j1 k1 l0 false x5_1 x6_1 x7_1 false ((rd_T38 l0 x7_1).f0) ((rd_T38 l0 x7_1).f1) ((rd_T38 l0 x7_1).f2) true false ((rd_T38 l0 x7_1).f5) ((rd_T38 l0 x7_1).f6) ((rd_T38 l0 x7_1).f7)) else (partitaref10_Check.j1 k1 l0 false x5_1 x6_1 x7_1 x6_1 ((rd_T38 l0 x7_1).f0) ((rd_T38 l0 x7_1).f1) ((rd_T38 l0 x7_1).f2) true false ((rd_T38 l0 x7_1).f5) ((rd_T38 l0 x7_1).f6) ((rd_T38 l0 x7_1).f7))) = some (r1, r2) := by rw [if_neg (show ¬ (false = true) by decide)] at H; exact H
          clear H
          have H := H1
          clear H1
          by_cases c28 : ((rd_T38 l0 x7_1).f7) = 0
          rotate_left
          · rw [if_neg c28] at H
            have c28b0 : (((rd_T38 l0 x7_1).f7) == 0) = false := beq_eq_false_iff_ne.mpr c28
            have c28b1 : (((rd_T38 l0 x7_1).f7) != 0) = true := bne_iff_ne.mpr c28
            have H' := Aside0.mk H
            clear H
            have hz32 := cells8 BK102.out
            go_wp2_with (first | ((with_reducible refine gate_callee (f := 31) rfl ?_); refine goesL_ (some 22) rfl rfl Try.func31 (by kernel_rfl) rfl #[.agg #[.bool ((rd_T38 l0 x7_1).f0), .int .i64 ((rd_T38 l0 x7_1).f1), .slice A101_2 ((rd_T38 l0 x7_1).f2).length c101_2, .bool true, .bool false, .bool ((rd_T38 l0 x7_1).f5), .bool ((rd_T38 l0 x7_1).f6), .int .i64 ((rd_T38 l0 x7_1).f7)]] rfl qq4 ?_; (with_reducible refine (partitaref10_right.calls k1 ((rd_T38 l0 x7_1).f0) ((rd_T38 l0 x7_1).f1) _ _ ((rd_T38 l0 x7_1).f2) true false ((rd_T38 l0 x7_1).f5) ((rd_T38 l0 x7_1).f6) ((rd_T38 l0 x7_1).f7) true _ ?side1 ?side2 A7.out).mono ?_); (case side1 => exact qqm); (case side2 => exact HC101_2.out); rintro e w33 ⟨rfl, hb⟩; refine ⟨_, rfl, ?_⟩; replace BK102 := Aside0.mk (blk_below (g := gb102) (o := .cells #[.bool ((rd_T38 l0 x7_1).f0), .int .i64 ((rd_T38 l0 x7_1).f1), .slice A101_2 ((rd_T38 l0 x7_1).f2).length c101_2, .bool true, .bool false, .bool ((rd_T38 l0 x7_1).f5), .bool ((rd_T38 l0 x7_1).f6), .int .i64 ((rd_T38 l0 x7_1).f7)] 38 (0, 0)) (by refine bq ?_; refine blk_put (cs := #[.bool ((rd_T38 l0 x7_1).f0), .int .i64 ((rd_T38 l0 x7_1).f1), .slice A101_2 ((rd_T38 l0 x7_1).f2).length c101_2, .bool (true), .bool (false), .bool ((rd_T38 l0 x7_1).f5), .bool ((rd_T38 l0 x7_1).f6), .int .i64 0]) ?_ 7 _ rfl; refine bq ?_; refine blk_put (cs := #[.bool ((rd_T38 l0 x7_1).f0), .int .i64 ((rd_T38 l0 x7_1).f1), .slice A101_2 ((rd_T38 l0 x7_1).f2).length c101_2, .bool (true), .bool (false), .bool ((rd_T38 l0 x7_1).f5), .bool false, .int .i64 0]) ?_ 6 _ rfl; refine bq ?_; refine blk_put (cs := #[.bool ((rd_T38 l0 x7_1).f0), .int .i64 ((rd_T38 l0 x7_1).f1), .slice A101_2 ((rd_T38 l0 x7_1).f2).length c101_2, .bool (true), .bool (false), .bool false, .bool false, .int .i64 0]) ?_ 5 _ rfl; refine bq ?_; refine blk_put (cs := #[.bool ((rd_T38 l0 x7_1).f0), .int .i64 ((rd_T38 l0 x7_1).f1), .slice A101_2 ((rd_T38 l0 x7_1).f2).length c101_2, .bool (true), .bool false, .bool false, .bool false, .int .i64 0]) ?_ 4 _ rfl; refine bq ?_; refine blk_put (cs := #[.bool ((rd_T38 l0 x7_1).f0), .int .i64 ((rd_T38 l0 x7_1).f1), .slice A101_2 ((rd_T38 l0 x7_1).f2).length c101_2, .bool false, .bool false, .bool false, .bool false, .int .i64 0]) ?_ 3 _ rfl; refine bq ?_; refine blk_put (cs := #[.bool ((rd_T38 l0 x7_1).f0), .int .i64 ((rd_T38 l0 x7_1).f1), .slice none 0 0, .bool false, .bool false, .bool false, .bool false, .int .i64 0]) ?_ 2 _ rfl; refine bq ?_; refine blk_put (cs := #[.bool ((rd_T38 l0 x7_1).f0), .int .i64 0, .slice none 0 0, .bool false, .bool false, .bool false, .bool false, .int .i64 0]) ?_ 1 _ rfl; refine bq ?_; refine blk_put (cs := #[.bool false, .int .i64 0, .slice none 0 0, .bool false, .bool false, .bool false, .bool false, .int .i64 0]) ?_ 0 _ rfl; exact bq BK102.out) hb); replace HB := Aside0.mk (below_step (qS1 GE102 HB.out) hb); have hz34 := cells8 BK102.out))
            go_meet
            case rel => (try rw [← Nbq9.out]); (try rw [← Nbq15.out]); exact ⟨_, (x6_1), (by first | rfl), H', ⟨qqf⟩, ⟨bq BK102.out⟩, ⟨qS1 GE102 HB.out⟩⟩
          rw [if_pos c28] at H
          have c28b0 : (((rd_T38 l0 x7_1).f7) == 0) = true := beq_iff_eq.mpr c28
          have c28b1 : (((rd_T38 l0 x7_1).f7) != 0) = false := bne_eq_false_iff_eq.mpr c28
          clear c28
          have H' := Aside0.mk H
          clear H
          have hz29 := cells8 BK102.out
          go_wp2_with (first | ((with_reducible refine gate_callee (f := 31) rfl ?_); refine goesL_ (some 22) rfl rfl Try.func31 (by kernel_rfl) rfl #[.agg #[.bool ((rd_T38 l0 x7_1).f0), .int .i64 ((rd_T38 l0 x7_1).f1), .slice A101_2 ((rd_T38 l0 x7_1).f2).length c101_2, .bool true, .bool false, .bool ((rd_T38 l0 x7_1).f5), .bool ((rd_T38 l0 x7_1).f6), .int .i64 ((rd_T38 l0 x7_1).f7)]] rfl qq4 ?_; (with_reducible refine (partitaref10_right.calls k1 ((rd_T38 l0 x7_1).f0) ((rd_T38 l0 x7_1).f1) _ _ ((rd_T38 l0 x7_1).f2) true false ((rd_T38 l0 x7_1).f5) ((rd_T38 l0 x7_1).f6) ((rd_T38 l0 x7_1).f7) true _ ?side1 ?side2 A7.out).mono ?_); (case side1 => exact qqm); (case side2 => exact HC101_2.out); rintro e w30 ⟨rfl, hb⟩; refine ⟨_, rfl, ?_⟩; replace BK102 := Aside0.mk (blk_below (g := gb102) (o := .cells #[.bool ((rd_T38 l0 x7_1).f0), .int .i64 ((rd_T38 l0 x7_1).f1), .slice A101_2 ((rd_T38 l0 x7_1).f2).length c101_2, .bool true, .bool false, .bool ((rd_T38 l0 x7_1).f5), .bool ((rd_T38 l0 x7_1).f6), .int .i64 ((rd_T38 l0 x7_1).f7)] 38 (0, 0)) (by refine bq ?_; refine blk_put (cs := #[.bool ((rd_T38 l0 x7_1).f0), .int .i64 ((rd_T38 l0 x7_1).f1), .slice A101_2 ((rd_T38 l0 x7_1).f2).length c101_2, .bool (true), .bool (false), .bool ((rd_T38 l0 x7_1).f5), .bool ((rd_T38 l0 x7_1).f6), .int .i64 0]) ?_ 7 _ rfl; refine bq ?_; refine blk_put (cs := #[.bool ((rd_T38 l0 x7_1).f0), .int .i64 ((rd_T38 l0 x7_1).f1), .slice A101_2 ((rd_T38 l0 x7_1).f2).length c101_2, .bool (true), .bool (false), .bool ((rd_T38 l0 x7_1).f5), .bool false, .int .i64 0]) ?_ 6 _ rfl; refine bq ?_; refine blk_put (cs := #[.bool ((rd_T38 l0 x7_1).f0), .int .i64 ((rd_T38 l0 x7_1).f1), .slice A101_2 ((rd_T38 l0 x7_1).f2).length c101_2, .bool (true), .bool (false), .bool false, .bool false, .int .i64 0]) ?_ 5 _ rfl; refine bq ?_; refine blk_put (cs := #[.bool ((rd_T38 l0 x7_1).f0), .int .i64 ((rd_T38 l0 x7_1).f1), .slice A101_2 ((rd_T38 l0 x7_1).f2).length c101_2, .bool (true), .bool false, .bool false, .bool false, .int .i64 0]) ?_ 4 _ rfl; refine bq ?_; refine blk_put (cs := #[.bool ((rd_T38 l0 x7_1).f0), .int .i64 ((rd_T38 l0 x7_1).f1), .slice A101_2 ((rd_T38 l0 x7_1).f2).length c101_2, .bool false, .bool false, .bool false, .bool false, .int .i64 0]) ?_ 3 _ rfl; refine bq ?_; refine blk_put (cs := #[.bool ((rd_T38 l0 x7_1).f0), .int .i64 ((rd_T38 l0 x7_1).f1), .slice none 0 0, .bool false, .bool false, .bool false, .bool false, .int .i64 0]) ?_ 2 _ rfl; refine bq ?_; refine blk_put (cs := #[.bool ((rd_T38 l0 x7_1).f0), .int .i64 0, .slice none 0 0, .bool false, .bool false, .bool false, .bool false, .int .i64 0]) ?_ 1 _ rfl; refine bq ?_; refine blk_put (cs := #[.bool false, .int .i64 0, .slice none 0 0, .bool false, .bool false, .bool false, .bool false, .int .i64 0]) ?_ 0 _ rfl; exact bq BK102.out) hb); replace HB := Aside0.mk (below_step (qS1 GE102 HB.out) hb); have hz31 := cells8 BK102.out))
          go_meet
          case rel => (try rw [← Nbq9.out]); (try rw [← Nbq15.out]); exact ⟨_, (false), (by first | rfl), H', ⟨qqf⟩, ⟨bq BK102.out⟩, ⟨qS1 GE102 HB.out⟩⟩
        subst c16
        have H1 : (if x5_1 = true then (partitaref10_Check.j1 k1 l0 false x5_1 x6_1 x7_1 true ((rd_T38 l0 x7_1).f0) ((rd_T38 l0 x7_1).f1) ((rd_T38 l0 x7_1).f2) true true ((rd_T38 l0 x7_1).f5) ((rd_T38 l0 x7_1).f6) ((rd_T38 l0 x7_1).f7)) else (if ((rd_T38 l0 x7_1).f7) = 0 then (partitaref10_Check.j1 k1 l0 false x5_1 x6_1 x7_1 false ((rd_T38 l0 x7_1).f0) ((rd_T38 l0 x7_1).f1) ((rd_T38 l0 x7_1).f2) true true ((rd_T38 l0 x7_1).f5) ((rd_T38 l0 x7_1).f6) ((rd_T38 l0 x7_1).f7)) else (partitaref10_Check.j1 k1 l0 false x5_1 x6_1 x7_1 x6_1 ((rd_T38 l0 x7_1).f0) ((rd_T38 l0 x7_1).f1) ((rd_T38 l0 x7_1).f2) true true ((rd_T38 l0 x7_1).f5) ((rd_T38 l0 x7_1).f6) ((rd_T38 l0 x7_1).f7)))) = some (r1, r2) := by rw [if_pos rfl] at H; exact H
        clear H
        have H := H1
        clear H1
        by_cases c17 : x5_1 = true
        · subst c17
          have H1 : (partitaref10_Check.j1 k1 l0 false true x6_1 x7_1 true ((rd_T38 l0 x7_1).f0) ((rd_T38 l0 x7_1).f1) ((rd_T38 l0 x7_1).f2) true true ((rd_T38 l0 x7_1).f5) ((rd_T38 l0 x7_1).f6) ((rd_T38 l0 x7_1).f7)) = some (r1, r2) := by rw [if_pos rfl] at H; exact H
          clear H
          have H := H1
          clear H1
          have H' := Aside0.mk H
          clear H
          have hz18 := cells8 BK102.out
          go_wp2_with (first | ((with_reducible refine gate_callee (f := 31) rfl ?_); refine goesL_ (some 22) rfl rfl Try.func31 (by kernel_rfl) rfl #[.agg #[.bool ((rd_T38 l0 x7_1).f0), .int .i64 ((rd_T38 l0 x7_1).f1), .slice A101_2 ((rd_T38 l0 x7_1).f2).length c101_2, .bool true, .bool true, .bool ((rd_T38 l0 x7_1).f5), .bool ((rd_T38 l0 x7_1).f6), .int .i64 ((rd_T38 l0 x7_1).f7)]] rfl qq4 ?_; (with_reducible refine (partitaref10_right.calls k1 ((rd_T38 l0 x7_1).f0) ((rd_T38 l0 x7_1).f1) _ _ ((rd_T38 l0 x7_1).f2) true true ((rd_T38 l0 x7_1).f5) ((rd_T38 l0 x7_1).f6) ((rd_T38 l0 x7_1).f7) true _ ?side1 ?side2 A7.out).mono ?_); (case side1 => exact qqm); (case side2 => exact HC101_2.out); rintro e w19 ⟨rfl, hb⟩; refine ⟨_, rfl, ?_⟩; replace BK102 := Aside0.mk (blk_below (g := gb102) (o := .cells #[.bool ((rd_T38 l0 x7_1).f0), .int .i64 ((rd_T38 l0 x7_1).f1), .slice A101_2 ((rd_T38 l0 x7_1).f2).length c101_2, .bool true, .bool true, .bool ((rd_T38 l0 x7_1).f5), .bool ((rd_T38 l0 x7_1).f6), .int .i64 ((rd_T38 l0 x7_1).f7)] 38 (0, 0)) (by refine bq ?_; refine blk_put (cs := #[.bool ((rd_T38 l0 x7_1).f0), .int .i64 ((rd_T38 l0 x7_1).f1), .slice A101_2 ((rd_T38 l0 x7_1).f2).length c101_2, .bool (true), .bool (true), .bool ((rd_T38 l0 x7_1).f5), .bool ((rd_T38 l0 x7_1).f6), .int .i64 0]) ?_ 7 _ rfl; refine bq ?_; refine blk_put (cs := #[.bool ((rd_T38 l0 x7_1).f0), .int .i64 ((rd_T38 l0 x7_1).f1), .slice A101_2 ((rd_T38 l0 x7_1).f2).length c101_2, .bool (true), .bool (true), .bool ((rd_T38 l0 x7_1).f5), .bool false, .int .i64 0]) ?_ 6 _ rfl; refine bq ?_; refine blk_put (cs := #[.bool ((rd_T38 l0 x7_1).f0), .int .i64 ((rd_T38 l0 x7_1).f1), .slice A101_2 ((rd_T38 l0 x7_1).f2).length c101_2, .bool (true), .bool (true), .bool false, .bool false, .int .i64 0]) ?_ 5 _ rfl; refine bq ?_; refine blk_put (cs := #[.bool ((rd_T38 l0 x7_1).f0), .int .i64 ((rd_T38 l0 x7_1).f1), .slice A101_2 ((rd_T38 l0 x7_1).f2).length c101_2, .bool (true), .bool false, .bool false, .bool false, .int .i64 0]) ?_ 4 _ rfl; refine bq ?_; refine blk_put (cs := #[.bool ((rd_T38 l0 x7_1).f0), .int .i64 ((rd_T38 l0 x7_1).f1), .slice A101_2 ((rd_T38 l0 x7_1).f2).length c101_2, .bool false, .bool false, .bool false, .bool false, .int .i64 0]) ?_ 3 _ rfl; refine bq ?_; refine blk_put (cs := #[.bool ((rd_T38 l0 x7_1).f0), .int .i64 ((rd_T38 l0 x7_1).f1), .slice none 0 0, .bool false, .bool false, .bool false, .bool false, .int .i64 0]) ?_ 2 _ rfl; refine bq ?_; refine blk_put (cs := #[.bool ((rd_T38 l0 x7_1).f0), .int .i64 0, .slice none 0 0, .bool false, .bool false, .bool false, .bool false, .int .i64 0]) ?_ 1 _ rfl; refine bq ?_; refine blk_put (cs := #[.bool false, .int .i64 0, .slice none 0 0, .bool false, .bool false, .bool false, .bool false, .int .i64 0]) ?_ 0 _ rfl; exact bq BK102.out) hb); replace HB := Aside0.mk (below_step (qS1 GE102 HB.out) hb); have hz20 := cells8 BK102.out))
          go_meet
          case rel => (try rw [← Nbq9.out]); (try rw [← Nbq15.out]); exact ⟨_, (true), (by first | rfl), H', ⟨qqf⟩, ⟨bq BK102.out⟩, ⟨qS1 GE102 HB.out⟩⟩
        replace c17 := Bool.eq_false_iff.mpr c17
        subst c17
        have H1 : (if ((rd_T38 l0 x7_1).f7) = 0 then (partitaref10_Check.j1 k1 l0 false false x6_1 x7_1 false ((rd_T38 l0 x7_1).f0) ((rd_T38 l0 x7_1).f1) ((rd_T38 l0 x7_1).f2) true true ((rd_T38 l0 x7_1).f5) ((rd_T38 l0 x7_1).f6) ((rd_T38 l0 x7_1).f7)) else (partitaref10_Check.j1 k1 l0 false false x6_1 x7_1 x6_1 ((rd_T38 l0 x7_1).f0) ((rd_T38 l0 x7_1).f1) ((rd_T38 l0 x7_1).f2) true true ((rd_T38 l0 x7_1).f5) ((rd_T38 l0 x7_1).f6) ((rd_T38 l0 x7_1).f7))) = some (r1, r2) := by rw [if_neg (show ¬ (false = true) by decide)] at H; exact H
        clear H
        have H := H1
        clear H1
        by_cases c21 : ((rd_T38 l0 x7_1).f7) = 0
        rotate_left
        · rw [if_neg c21] at H
          have c21b0 : (((rd_T38 l0 x7_1).f7) == 0) = false := beq_eq_false_iff_ne.mpr c21
          have c21b1 : (((rd_T38 l0 x7_1).f7) != 0) = true := bne_iff_ne.mpr c21
          have H' := Aside0.mk H
          clear H
          have hz25 := cells8 BK102.out
          go_wp2_with (first | ((with_reducible refine gate_callee (f := 31) rfl ?_); refine goesL_ (some 22) rfl rfl Try.func31 (by kernel_rfl) rfl #[.agg #[.bool ((rd_T38 l0 x7_1).f0), .int .i64 ((rd_T38 l0 x7_1).f1), .slice A101_2 ((rd_T38 l0 x7_1).f2).length c101_2, .bool true, .bool true, .bool ((rd_T38 l0 x7_1).f5), .bool ((rd_T38 l0 x7_1).f6), .int .i64 ((rd_T38 l0 x7_1).f7)]] rfl qq4 ?_; (with_reducible refine (partitaref10_right.calls k1 ((rd_T38 l0 x7_1).f0) ((rd_T38 l0 x7_1).f1) _ _ ((rd_T38 l0 x7_1).f2) true true ((rd_T38 l0 x7_1).f5) ((rd_T38 l0 x7_1).f6) ((rd_T38 l0 x7_1).f7) true _ ?side1 ?side2 A7.out).mono ?_); (case side1 => exact qqm); (case side2 => exact HC101_2.out); rintro e w26 ⟨rfl, hb⟩; refine ⟨_, rfl, ?_⟩; replace BK102 := Aside0.mk (blk_below (g := gb102) (o := .cells #[.bool ((rd_T38 l0 x7_1).f0), .int .i64 ((rd_T38 l0 x7_1).f1), .slice A101_2 ((rd_T38 l0 x7_1).f2).length c101_2, .bool true, .bool true, .bool ((rd_T38 l0 x7_1).f5), .bool ((rd_T38 l0 x7_1).f6), .int .i64 ((rd_T38 l0 x7_1).f7)] 38 (0, 0)) (by refine bq ?_; refine blk_put (cs := #[.bool ((rd_T38 l0 x7_1).f0), .int .i64 ((rd_T38 l0 x7_1).f1), .slice A101_2 ((rd_T38 l0 x7_1).f2).length c101_2, .bool (true), .bool (true), .bool ((rd_T38 l0 x7_1).f5), .bool ((rd_T38 l0 x7_1).f6), .int .i64 0]) ?_ 7 _ rfl; refine bq ?_; refine blk_put (cs := #[.bool ((rd_T38 l0 x7_1).f0), .int .i64 ((rd_T38 l0 x7_1).f1), .slice A101_2 ((rd_T38 l0 x7_1).f2).length c101_2, .bool (true), .bool (true), .bool ((rd_T38 l0 x7_1).f5), .bool false, .int .i64 0]) ?_ 6 _ rfl; refine bq ?_; refine blk_put (cs := #[.bool ((rd_T38 l0 x7_1).f0), .int .i64 ((rd_T38 l0 x7_1).f1), .slice A101_2 ((rd_T38 l0 x7_1).f2).length c101_2, .bool (true), .bool (true), .bool false, .bool false, .int .i64 0]) ?_ 5 _ rfl; refine bq ?_; refine blk_put (cs := #[.bool ((rd_T38 l0 x7_1).f0), .int .i64 ((rd_T38 l0 x7_1).f1), .slice A101_2 ((rd_T38 l0 x7_1).f2).length c101_2, .bool (true), .bool false, .bool false, .bool false, .int .i64 0]) ?_ 4 _ rfl; refine bq ?_; refine blk_put (cs := #[.bool ((rd_T38 l0 x7_1).f0), .int .i64 ((rd_T38 l0 x7_1).f1), .slice A101_2 ((rd_T38 l0 x7_1).f2).length c101_2, .bool false, .bool false, .bool false, .bool false, .int .i64 0]) ?_ 3 _ rfl; refine bq ?_; refine blk_put (cs := #[.bool ((rd_T38 l0 x7_1).f0), .int .i64 ((rd_T38 l0 x7_1).f1), .slice none 0 0, .bool false, .bool false, .bool false, .bool false, .int .i64 0]) ?_ 2 _ rfl; refine bq ?_; refine blk_put (cs := #[.bool ((rd_T38 l0 x7_1).f0), .int .i64 0, .slice none 0 0, .bool false, .bool false, .bool false, .bool false, .int .i64 0]) ?_ 1 _ rfl; refine bq ?_; refine blk_put (cs := #[.bool false, .int .i64 0, .slice none 0 0, .bool false, .bool false, .bool false, .bool false, .int .i64 0]) ?_ 0 _ rfl; exact bq BK102.out) hb); replace HB := Aside0.mk (below_step (qS1 GE102 HB.out) hb); have hz27 := cells8 BK102.out))
          go_meet
          case rel => (try rw [← Nbq9.out]); (try rw [← Nbq15.out]); exact ⟨_, (x6_1), (by first | rfl), H', ⟨qqf⟩, ⟨bq BK102.out⟩, ⟨qS1 GE102 HB.out⟩⟩
        rw [if_pos c21] at H
        have c21b0 : (((rd_T38 l0 x7_1).f7) == 0) = true := beq_iff_eq.mpr c21
        have c21b1 : (((rd_T38 l0 x7_1).f7) != 0) = false := bne_eq_false_iff_eq.mpr c21
        clear c21
        have H' := Aside0.mk H
        clear H
        have hz22 := cells8 BK102.out
        go_wp2_with (first | ((with_reducible refine gate_callee (f := 31) rfl ?_); refine goesL_ (some 22) rfl rfl Try.func31 (by kernel_rfl) rfl #[.agg #[.bool ((rd_T38 l0 x7_1).f0), .int .i64 ((rd_T38 l0 x7_1).f1), .slice A101_2 ((rd_T38 l0 x7_1).f2).length c101_2, .bool true, .bool true, .bool ((rd_T38 l0 x7_1).f5), .bool ((rd_T38 l0 x7_1).f6), .int .i64 ((rd_T38 l0 x7_1).f7)]] rfl qq4 ?_; (with_reducible refine (partitaref10_right.calls k1 ((rd_T38 l0 x7_1).f0) ((rd_T38 l0 x7_1).f1) _ _ ((rd_T38 l0 x7_1).f2) true true ((rd_T38 l0 x7_1).f5) ((rd_T38 l0 x7_1).f6) ((rd_T38 l0 x7_1).f7) true _ ?side1 ?side2 A7.out).mono ?_); (case side1 => exact qqm); (case side2 => exact HC101_2.out); rintro e w23 ⟨rfl, hb⟩; refine ⟨_, rfl, ?_⟩; replace BK102 := Aside0.mk (blk_below (g := gb102) (o := .cells #[.bool ((rd_T38 l0 x7_1).f0), .int .i64 ((rd_T38 l0 x7_1).f1), .slice A101_2 ((rd_T38 l0 x7_1).f2).length c101_2, .bool true, .bool true, .bool ((rd_T38 l0 x7_1).f5), .bool ((rd_T38 l0 x7_1).f6), .int .i64 ((rd_T38 l0 x7_1).f7)] 38 (0, 0)) (by refine bq ?_; refine blk_put (cs := #[.bool ((rd_T38 l0 x7_1).f0), .int .i64 ((rd_T38 l0 x7_1).f1), .slice A101_2 ((rd_T38 l0 x7_1).f2).length c101_2, .bool (true), .bool (true), .bool ((rd_T38 l0 x7_1).f5), .bool ((rd_T38 l0 x7_1).f6), .int .i64 0]) ?_ 7 _ rfl; refine bq ?_; refine blk_put (cs := #[.bool ((rd_T38 l0 x7_1).f0), .int .i64 ((rd_T38 l0 x7_1).f1), .slice A101_2 ((rd_T38 l0 x7_1).f2).length c101_2, .bool (true), .bool (true), .bool ((rd_T38 l0 x7_1).f5), .bool false, .int .i64 0]) ?_ 6 _ rfl; refine bq ?_; refine blk_put (cs := #[.bool ((rd_T38 l0 x7_1).f0), .int .i64 ((rd_T38 l0 x7_1).f1), .slice A101_2 ((rd_T38 l0 x7_1).f2).length c101_2, .bool (true), .bool (true), .bool false, .bool false, .int .i64 0]) ?_ 5 _ rfl; refine bq ?_; refine blk_put (cs := #[.bool ((rd_T38 l0 x7_1).f0), .int .i64 ((rd_T38 l0 x7_1).f1), .slice A101_2 ((rd_T38 l0 x7_1).f2).length c101_2, .bool (true), .bool false, .bool false, .bool false, .int .i64 0]) ?_ 4 _ rfl; refine bq ?_; refine blk_put (cs := #[.bool ((rd_T38 l0 x7_1).f0), .int .i64 ((rd_T38 l0 x7_1).f1), .slice A101_2 ((rd_T38 l0 x7_1).f2).length c101_2, .bool false, .bool false, .bool false, .bool false, .int .i64 0]) ?_ 3 _ rfl; refine bq ?_; refine blk_put (cs := #[.bool ((rd_T38 l0 x7_1).f0), .int .i64 ((rd_T38 l0 x7_1).f1), .slice none 0 0, .bool false, .bool false, .bool false, .bool false, .int .i64 0]) ?_ 2 _ rfl; refine bq ?_; refine blk_put (cs := #[.bool ((rd_T38 l0 x7_1).f0), .int .i64 0, .slice none 0 0, .bool false, .bool false, .bool false, .bool false, .int .i64 0]) ?_ 1 _ rfl; refine bq ?_; refine blk_put (cs := #[.bool false, .int .i64 0, .slice none 0 0, .bool false, .bool false, .bool false, .bool false, .int .i64 0]) ?_ 0 _ rfl; exact bq BK102.out) hb); replace HB := Aside0.mk (below_step (qS1 GE102 HB.out) hb); have hz24 := cells8 BK102.out))
        go_meet
        case rel => (try rw [← Nbq9.out]); (try rw [← Nbq15.out]); exact ⟨_, (false), (by first | rfl), H', ⟨qqf⟩, ⟨bq BK102.out⟩, ⟨qS1 GE102 HB.out⟩⟩
      case rest =>
        clear HC4
        obtain ⟨kq, x45_3, rfl, HA, HJ3, BK102, HB⟩ := hcut
        cases kq with
        | zero => exact absurd HA.out (by simp [partitaref10_Check.j1])
        | succ kj3 =>
          have H := HA.out
          clear HA
          simp only [partitaref10_Check.j1] at H
          by_cases c57 : x45_3 = true
          · subst c57
            have H1 : (some (x7_1, 100)) = some (r1, r2) := by rw [if_pos rfl] at H; exact H
            clear H
            have H := H1
            clear H1
            simp only [Option.some.injEq, Prod.mk.injEq] at H
            obtain ⟨rfl, rfl⟩ := H
            go_wp2
            go_ret2
            exact ⟨by first | rfl, qS1 GE102 HB.out⟩
          replace c57 := Bool.eq_false_iff.mpr c57
          subst c57
          have H1 : (if x4_1 = true then (if x5_1 = true then (if x6_1 = true then (partitaref10_Check.l0 kj3 l0 true true true (wrap64 (x7_1 + 1))) else (partitaref10_Check.l0 kj3 l0 true true (((rd_T38 l0 x7_1).f7) != 0) (wrap64 (x7_1 + 1)))) else (if x6_1 = true then (partitaref10_Check.l0 kj3 l0 true ((rd_T38 l0 x7_1).f4) true (wrap64 (x7_1 + 1))) else (partitaref10_Check.l0 kj3 l0 true ((rd_T38 l0 x7_1).f4) (((rd_T38 l0 x7_1).f7) != 0) (wrap64 (x7_1 + 1))))) else (if x5_1 = true then (if x6_1 = true then (partitaref10_Check.l0 kj3 l0 ((rd_T38 l0 x7_1).f3) true true (wrap64 (x7_1 + 1))) else (partitaref10_Check.l0 kj3 l0 ((rd_T38 l0 x7_1).f3) true (((rd_T38 l0 x7_1).f7) != 0) (wrap64 (x7_1 + 1)))) else (if x6_1 = true then (partitaref10_Check.l0 kj3 l0 ((rd_T38 l0 x7_1).f3) ((rd_T38 l0 x7_1).f4) true (wrap64 (x7_1 + 1))) else (partitaref10_Check.l0 kj3 l0 ((rd_T38 l0 x7_1).f3) ((rd_T38 l0 x7_1).f4) (((rd_T38 l0 x7_1).f7) != 0) (wrap64 (x7_1 + 1)))))) = some (r1, r2) := by rw [if_neg (show ¬ (false = true) by decide)] at H; exact H
          clear H
          have H := H1
          clear H1
          by_cases c58 : x4_1 = true
          · subst c58
            have H1 : (if x5_1 = true then (if x6_1 = true then (partitaref10_Check.l0 kj3 l0 true true true (wrap64 (x7_1 + 1))) else (partitaref10_Check.l0 kj3 l0 true true (((rd_T38 l0 x7_1).f7) != 0) (wrap64 (x7_1 + 1)))) else (if x6_1 = true then (partitaref10_Check.l0 kj3 l0 true ((rd_T38 l0 x7_1).f4) true (wrap64 (x7_1 + 1))) else (partitaref10_Check.l0 kj3 l0 true ((rd_T38 l0 x7_1).f4) (((rd_T38 l0 x7_1).f7) != 0) (wrap64 (x7_1 + 1))))) = some (r1, r2) := by rw [if_pos rfl] at H; exact H
            clear H
            have H := H1
            clear H1
            by_cases c59 : x5_1 = true
            · subst c59
              have H1 : (if x6_1 = true then (partitaref10_Check.l0 kj3 l0 true true true (wrap64 (x7_1 + 1))) else (partitaref10_Check.l0 kj3 l0 true true (((rd_T38 l0 x7_1).f7) != 0) (wrap64 (x7_1 + 1)))) = some (r1, r2) := by rw [if_pos rfl] at H; exact H
              clear H
              have H := H1
              clear H1
              by_cases c60 : x6_1 = true
              · subst c60
                have H1 : (partitaref10_Check.l0 kj3 l0 true true true (wrap64 (x7_1 + 1))) = some (r1, r2) := by rw [if_pos rfl] at H; exact H
                clear H
                have H := H1
                clear H1
                have H' := Aside0.mk H
                clear H
                go_wp2
                go_roundg kj3
                case measure => have := HK1.out; have := HJ3.out; omega
                case rel => exact ⟨(true), (true), (true), (wrap64 (x7_1 + 1)), (by first | rfl), (by first | rfl), (by first | rfl), (by first | rfl), H', ⟨qqC⟩, ⟨qS1 GE102 HB.out⟩⟩
              replace c60 := Bool.eq_false_iff.mpr c60
              subst c60
              have H1 : (partitaref10_Check.l0 kj3 l0 true true (((rd_T38 l0 x7_1).f7) != 0) (wrap64 (x7_1 + 1))) = some (r1, r2) := by rw [if_neg (show ¬ (false = true) by decide)] at H; exact H
              clear H
              have H := H1
              clear H1
              have H' := Aside0.mk H
              clear H
              have hz61 := cells8 BK102.out
              go_wp2
              go_roundg kj3
              case measure => have := HK1.out; have := HJ3.out; omega
              case rel => exact ⟨(true), (true), ((((rd_T38 l0 x7_1).f7) != 0)), (wrap64 (x7_1 + 1)), (by first | rfl), (by first | rfl), (by first | rfl), (by first | rfl), H', ⟨qqC⟩, ⟨qS1 GE102 HB.out⟩⟩
            replace c59 := Bool.eq_false_iff.mpr c59
            subst c59
            have H1 : (if x6_1 = true then (partitaref10_Check.l0 kj3 l0 true ((rd_T38 l0 x7_1).f4) true (wrap64 (x7_1 + 1))) else (partitaref10_Check.l0 kj3 l0 true ((rd_T38 l0 x7_1).f4) (((rd_T38 l0 x7_1).f7) != 0) (wrap64 (x7_1 + 1)))) = some (r1, r2) := by rw [if_neg (show ¬ (false = true) by decide)] at H; exact H
            clear H
            have H := H1
            clear H1
            by_cases c62 : x6_1 = true
            · subst c62
              have H1 : (partitaref10_Check.l0 kj3 l0 true ((rd_T38 l0 x7_1).f4) true (wrap64 (x7_1 + 1))) = some (r1, r2) := by rw [if_pos rfl] at H; exact H
              clear H
              have H := H1
              clear H1
              have H' := Aside0.mk H
              clear H
              have hz63 := cells8 BK102.out
              go_wp2
              go_roundg kj3
              case measure => have := HK1.out; have := HJ3.out; omega
              case rel => exact ⟨(true), (((rd_T38 l0 x7_1).f4)), (true), (wrap64 (x7_1 + 1)), (by first | rfl), (by first | rfl), (by first | rfl), (by first | rfl), H', ⟨qqC⟩, ⟨qS1 GE102 HB.out⟩⟩
            replace c62 := Bool.eq_false_iff.mpr c62
            subst c62
            have H1 : (partitaref10_Check.l0 kj3 l0 true ((rd_T38 l0 x7_1).f4) (((rd_T38 l0 x7_1).f7) != 0) (wrap64 (x7_1 + 1))) = some (r1, r2) := by rw [if_neg (show ¬ (false = true) by decide)] at H; exact H
            clear H
            have H := H1
            clear H1
            have H' := Aside0.mk H
            clear H
            have hz64 := cells8 BK102.out
            go_wp2
            go_roundg kj3
            case measure => have := HK1.out; have := HJ3.out; omega
            case rel => exact ⟨(true), (((rd_T38 l0 x7_1).f4)), ((((rd_T38 l0 x7_1).f7) != 0)), (wrap64 (x7_1 + 1)), (by first | rfl), (by first | rfl), (by first | rfl), (by first | rfl), H', ⟨qqC⟩, ⟨qS1 GE102 HB.out⟩⟩
          replace c58 := Bool.eq_false_iff.mpr c58
          subst c58
          have H1 : (if x5_1 = true then (if x6_1 = true then (partitaref10_Check.l0 kj3 l0 ((rd_T38 l0 x7_1).f3) true true (wrap64 (x7_1 + 1))) else (partitaref10_Check.l0 kj3 l0 ((rd_T38 l0 x7_1).f3) true (((rd_T38 l0 x7_1).f7) != 0) (wrap64 (x7_1 + 1)))) else (if x6_1 = true then (partitaref10_Check.l0 kj3 l0 ((rd_T38 l0 x7_1).f3) ((rd_T38 l0 x7_1).f4) true (wrap64 (x7_1 + 1))) else (partitaref10_Check.l0 kj3 l0 ((rd_T38 l0 x7_1).f3) ((rd_T38 l0 x7_1).f4) (((rd_T38 l0 x7_1).f7) != 0) (wrap64 (x7_1 + 1))))) = some (r1, r2) := by rw [if_neg (show ¬ (false = true) by decide)] at H; exact H
          clear H
          have H := H1
          clear H1
          by_cases c65 : x5_1 = true
          · subst c65
            have H1 : (if x6_1 = true then (partitaref10_Check.l0 kj3 l0 ((rd_T38 l0 x7_1).f3) true true (wrap64 (x7_1 + 1))) else (partitaref10_Check.l0 kj3 l0 ((rd_T38 l0 x7_1).f3) true (((rd_T38 l0 x7_1).f7) != 0) (wrap64 (x7_1 + 1)))) = some (r1, r2) := by rw [if_pos rfl] at H; exact H
            clear H
            have H := H1
            clear H1
            by_cases c66 : x6_1 = true
            · subst c66
              have H1 : (partitaref10_Check.l0 kj3 l0 ((rd_T38 l0 x7_1).f3) true true (wrap64 (x7_1 + 1))) = some (r1, r2) := by rw [if_pos rfl] at H; exact H
              clear H
              have H := H1
              clear H1
              have H' := Aside0.mk H
              clear H
              have hz67 := cells8 BK102.out
              go_wp2
              go_roundg kj3
              case measure => have := HK1.out; have := HJ3.out; omega
              case rel => exact ⟨(((rd_T38 l0 x7_1).f3)), (true), (true), (wrap64 (x7_1 + 1)), (by first | rfl), (by first | rfl), (by first | rfl), (by first | rfl), H', ⟨qqC⟩, ⟨qS1 GE102 HB.out⟩⟩
            replace c66 := Bool.eq_false_iff.mpr c66
            subst c66
            have H1 : (partitaref10_Check.l0 kj3 l0 ((rd_T38 l0 x7_1).f3) true (((rd_T38 l0 x7_1).f7) != 0) (wrap64 (x7_1 + 1))) = some (r1, r2) := by rw [if_neg (show ¬ (false = true) by decide)] at H; exact H
            clear H
            have H := H1
            clear H1
            have H' := Aside0.mk H
            clear H
            have hz68 := cells8 BK102.out
            go_wp2
            go_roundg kj3
            case measure => have := HK1.out; have := HJ3.out; omega
            case rel => exact ⟨(((rd_T38 l0 x7_1).f3)), (true), ((((rd_T38 l0 x7_1).f7) != 0)), (wrap64 (x7_1 + 1)), (by first | rfl), (by first | rfl), (by first | rfl), (by first | rfl), H', ⟨qqC⟩, ⟨qS1 GE102 HB.out⟩⟩
          replace c65 := Bool.eq_false_iff.mpr c65
          subst c65
          have H1 : (if x6_1 = true then (partitaref10_Check.l0 kj3 l0 ((rd_T38 l0 x7_1).f3) ((rd_T38 l0 x7_1).f4) true (wrap64 (x7_1 + 1))) else (partitaref10_Check.l0 kj3 l0 ((rd_T38 l0 x7_1).f3) ((rd_T38 l0 x7_1).f4) (((rd_T38 l0 x7_1).f7) != 0) (wrap64 (x7_1 + 1)))) = some (r1, r2) := by rw [if_neg (show ¬ (false = true) by decide)] at H; exact H
          clear H
          have H := H1
          clear H1
          by_cases c69 : x6_1 = true
          · subst c69
            have H1 : (partitaref10_Check.l0 kj3 l0 ((rd_T38 l0 x7_1).f3) ((rd_T38 l0 x7_1).f4) true (wrap64 (x7_1 + 1))) = some (r1, r2) := by rw [if_pos rfl] at H; exact H
            clear H
            have H := H1
            clear H1
            have H' := Aside0.mk H
            clear H
            have hz70 := cells8 BK102.out
            go_wp2
            go_roundg kj3
            case measure => have := HK1.out; have := HJ3.out; omega
            case rel => exact ⟨(((rd_T38 l0 x7_1).f3)), (((rd_T38 l0 x7_1).f4)), (true), (wrap64 (x7_1 + 1)), (by first | rfl), (by first | rfl), (by first | rfl), (by first | rfl), H', ⟨qqC⟩, ⟨qS1 GE102 HB.out⟩⟩
          replace c69 := Bool.eq_false_iff.mpr c69
          subst c69
          have H1 : (partitaref10_Check.l0 kj3 l0 ((rd_T38 l0 x7_1).f3) ((rd_T38 l0 x7_1).f4) (((rd_T38 l0 x7_1).f7) != 0) (wrap64 (x7_1 + 1))) = some (r1, r2) := by rw [if_neg (show ¬ (false = true) by decide)] at H; exact H
          clear H
          have H := H1
          clear H1
          have H' := Aside0.mk H
          clear H
          have hz71 := cells8 BK102.out
          go_wp2
          go_roundg kj3
          case measure => have := HK1.out; have := HJ3.out; omega
          case rel => exact ⟨(((rd_T38 l0 x7_1).f3)), (((rd_T38 l0 x7_1).f4)), ((((rd_T38 l0 x7_1).f7) != 0)), (wrap64 (x7_1 + 1)), (by first | rfl), (by first | rfl), (by first | rfl), (by first | rfl), H', ⟨qqC⟩, ⟨qS1 GE102 HB.out⟩⟩
def IsS64 (w0 W : World) (g : Nat) (f0 : Int) (f1 : Int) (f2 : Int) (f3 : Bool) (f4 : Bool) (f5 : Bool) (f6 : Bool) (f7 : Bool) : Prop := W.heap[g]? = some (.cells #[.int .i64 f0, .int .i64 f1, .int .i64 f2, .bool f3, .bool f4, .bool f5, .bool f6, .bool f7] 64 (0, 0)) ∧ w0.heap.size ≤ g
theorem IsS64.grown {w0 W : World} {g : Nat} {f0 : Int} {f1 : Int} {f2 : Int} {f3 : Bool} {f4 : Bool} {f5 : Bool} {f6 : Bool} {f7 : Bool} {W1 : World} {row : Option Nat} (h : IsS64 w0 W g f0 f1 f2 f3 f4 f5 f6 f7) (hw : W.grownBy W1 row) (hne : some g ≠ row) : IsS64 w0 W1 g f0 f1 f2 f3 f4 f5 f6 f7 := by
  obtain ⟨hb, hg⟩ := h
  exact ⟨blk_grown hb hw hne, hg⟩
theorem IsS64.kept {w0 W : World} {g : Nat} {f0 : Int} {f1 : Int} {f2 : Int} {f3 : Bool} {f4 : Bool} {f5 : Bool} {f6 : Bool} {f7 : Bool} {W1 : World} {S : Nat → Prop} (h : IsS64 w0 W g f0 f1 f2 f3 f4 f5 f6 f7) (hk : Kept W W1 S) (hne : ¬ S g) : IsS64 w0 W1 g f0 f1 f2 f3 f4 f5 f6 f7 := by
  obtain ⟨hb, hg⟩ := h
  exact ⟨blk_kept hb hk hne, hg⟩
theorem IsS64.below {w0 W : World} {g : Nat} {f0 : Int} {f1 : Int} {f2 : Int} {f3 : Bool} {f4 : Bool} {f5 : Bool} {f6 : Bool} {f7 : Bool} {W1 : World} (h : IsS64 w0 W g f0 f1 f2 f3 f4 f5 f6 f7) (hw : Below W.heap.size W W1) : IsS64 w0 W1 g f0 f1 f2 f3 f4 f5 f6 f7 := h.grown (grown_of_below hw none) (by simp)
theorem IsS64.alloc {w0 W : World} {g : Nat} {f0 : Int} {f1 : Int} {f2 : Int} {f3 : Bool} {f4 : Bool} {f5 : Bool} {f6 : Bool} {f7 : Bool} (h : IsS64 w0 W g f0 f1 f2 f3 f4 f5 f6 f7) (o : Obj) : IsS64 w0 (W.alloc o) g f0 f1 f2 f3 f4 f5 f6 f7 := h.below (below_alloc (Below.refl _ _) o)
theorem IsS64.drewN {w0 W : World} {g : Nat} {f0 : Int} {f1 : Int} {f2 : Int} {f3 : Bool} {f4 : Bool} {f5 : Bool} {f6 : Bool} {f7 : Bool} (h : IsS64 w0 W g f0 f1 f2 f3 f4 f5 f6 f7) (m : Nat) : IsS64 w0 (W.drewN m) g f0 f1 f2 f3 f4 f5 f6 f7 := h
theorem IsS64.drew {w0 W : World} {g : Nat} {f0 : Int} {f1 : Int} {f2 : Int} {f3 : Bool} {f4 : Bool} {f5 : Bool} {f6 : Bool} {f7 : Bool} (h : IsS64 w0 W g f0 f1 f2 f3 f4 f5 f6 f7) : IsS64 w0 W.drew g f0 f1 f2 f3 f4 f5 f6 f7 := h
theorem IsS64.at_ {w0 W : World} {g : Nat} {f0 : Int} {f1 : Int} {f2 : Int} {f3 : Bool} {f4 : Bool} {f5 : Bool} {f6 : Bool} {f7 : Bool} {w' : World} {m : Nat} (hq : W.drewN m = w') (h : IsS64 w0 W g f0 f1 f2 f3 f4 f5 f6 f7) : IsS64 w0 w' g f0 f1 f2 f3 f4 f5 f6 f7 := by subst hq; exact IsS64.drewN h m
theorem IsS64.apart {w0 W : World} {g : Nat} {f0 : Int} {f1 : Int} {f2 : Int} {f3 : Bool} {f4 : Bool} {f5 : Bool} {f6 : Bool} {f7 : Bool} {α : Type} {d : Kd α} {e : Nat} {base : Nat} {ok : Nat → Prop} {v : Value} {xs : List α} (h : IsS64 w0 W g f0 f1 f2 f3 f4 f5 f6 f7) (ho : d.R e W base ok v xs) (ht : ∀ q, q ∈ e :: d.E → q ≠ 64) : d.R e W base (fun k => ok k ∧ k ≠ g) v xs := by
  obtain ⟨hb, hg⟩ := h
  exact Kd.R_types ho hb ht
theorem IsS64.own_ne {w0 W : World} {g : Nat} {f0 : Int} {f1 : Int} {f2 : Int} {f3 : Bool} {f4 : Bool} {f5 : Bool} {f6 : Bool} {f7 : Bool} {α : Type} {d : Kd α} {e : Nat} {base : Nat} {ok : Nat → Prop} {v : Value} {xs : List α} (h : IsS64 w0 W g f0 f1 f2 f3 f4 f5 f6 f7) (ho : d.R e W base ok v xs) (ht : e ≠ 64) : some g ≠ v.ownBlock := by
  obtain ⟨hb, hg⟩ := h
  exact Kd.R_ne ho hb ht
theorem IsS64.lt {w0 W : World} {g : Nat} {f0 : Int} {f1 : Int} {f2 : Int} {f3 : Bool} {f4 : Bool} {f5 : Bool} {f6 : Bool} {f7 : Bool} (h : IsS64 w0 W g f0 f1 f2 f3 f4 f5 f6 f7) : g < W.heap.size := by
  obtain ⟨hb, hg⟩ := h
  exact blk_lt hb
theorem IsS64.ge {w0 W : World} {g : Nat} {f0 : Int} {f1 : Int} {f2 : Int} {f3 : Bool} {f4 : Bool} {f5 : Bool} {f6 : Bool} {f7 : Bool} (h : IsS64 w0 W g f0 f1 f2 f3 f4 f5 f6 f7) : w0.heap.size ≤ g := by
  obtain ⟨hb, hg⟩ := h
  exact hg
theorem IsS64.ne_blk {w0 W : World} {g : Nat} {f0 : Int} {f1 : Int} {f2 : Int} {f3 : Bool} {f4 : Bool} {f5 : Bool} {f6 : Bool} {f7 : Bool} {a : Nat} {cs : Array Value} {t : TypeId} {fr : Nat × Nat} (h : IsS64 w0 W g f0 f1 f2 f3 f4 f5 f6 f7) (hb2 : W.heap[a]? = some (.cells cs t fr)) (ht : t ≠ 64) : g ≠ a := by
  obtain ⟨hb, hg⟩ := h
  rintro rfl
  rw [hb] at hb2
  injection hb2 with hb2
  injection hb2 with _ ht2
  exact ht ht2.symm
theorem IsS64.far {w0 W : World} {g : Nat} {f0 : Int} {f1 : Int} {f2 : Int} {f3 : Bool} {f4 : Bool} {f5 : Bool} {f6 : Bool} {f7 : Bool} {p : Addr} (h : IsS64 w0 W g f0 f1 f2 f3 f4 f5 f6 f7) (hne : g ≠ p.block) (u : Value) : IsS64 w0 (W.setCell p u) g f0 f1 f2 f3 f4 f5 f6 f7 := by
  obtain ⟨hb, hg⟩ := h
  exact ⟨blk_far hb hne u, hg⟩
theorem cellS64_0 {W : World} {g : Nat} {f0 : Int} {f1 : Int} {f2 : Int} {f3 : Bool} {f4 : Bool} {f5 : Bool} {f6 : Bool} {f7 : Bool} (h : W.heap[g]? = some (.cells #[.int .i64 f0, .int .i64 f1, .int .i64 f2, .bool f3, .bool f4, .bool f5, .bool f6, .bool f7] 64 (0, 0))) : W.cell? ⟨g, 0, none⟩ = some (.int .i64 f0) := (blk_cell h 0).trans rfl
theorem IsS64.set_0 {w0 W : World} {g : Nat} {f0 : Int} {f1 : Int} {f2 : Int} {f3 : Bool} {f4 : Bool} {f5 : Bool} {f6 : Bool} {f7 : Bool} (h : IsS64 w0 W g f0 f1 f2 f3 f4 f5 f6 f7) (x : Int) : IsS64 w0 (W.setCell ⟨g, 0, none⟩ (.int .i64 x)) g x f1 f2 f3 f4 f5 f6 f7 := by
  obtain ⟨hb, hg⟩ := h
  exact ⟨by simpa using blk_set hb 0 (.int .i64 x), hg⟩
theorem cellS64_1 {W : World} {g : Nat} {f0 : Int} {f1 : Int} {f2 : Int} {f3 : Bool} {f4 : Bool} {f5 : Bool} {f6 : Bool} {f7 : Bool} (h : W.heap[g]? = some (.cells #[.int .i64 f0, .int .i64 f1, .int .i64 f2, .bool f3, .bool f4, .bool f5, .bool f6, .bool f7] 64 (0, 0))) : W.cell? ⟨g, 1, none⟩ = some (.int .i64 f1) := (blk_cell h 1).trans rfl
theorem IsS64.set_1 {w0 W : World} {g : Nat} {f0 : Int} {f1 : Int} {f2 : Int} {f3 : Bool} {f4 : Bool} {f5 : Bool} {f6 : Bool} {f7 : Bool} (h : IsS64 w0 W g f0 f1 f2 f3 f4 f5 f6 f7) (x : Int) : IsS64 w0 (W.setCell ⟨g, 1, none⟩ (.int .i64 x)) g f0 x f2 f3 f4 f5 f6 f7 := by
  obtain ⟨hb, hg⟩ := h
  exact ⟨by simpa using blk_set hb 1 (.int .i64 x), hg⟩
theorem cellS64_2 {W : World} {g : Nat} {f0 : Int} {f1 : Int} {f2 : Int} {f3 : Bool} {f4 : Bool} {f5 : Bool} {f6 : Bool} {f7 : Bool} (h : W.heap[g]? = some (.cells #[.int .i64 f0, .int .i64 f1, .int .i64 f2, .bool f3, .bool f4, .bool f5, .bool f6, .bool f7] 64 (0, 0))) : W.cell? ⟨g, 2, none⟩ = some (.int .i64 f2) := (blk_cell h 2).trans rfl
theorem IsS64.set_2 {w0 W : World} {g : Nat} {f0 : Int} {f1 : Int} {f2 : Int} {f3 : Bool} {f4 : Bool} {f5 : Bool} {f6 : Bool} {f7 : Bool} (h : IsS64 w0 W g f0 f1 f2 f3 f4 f5 f6 f7) (x : Int) : IsS64 w0 (W.setCell ⟨g, 2, none⟩ (.int .i64 x)) g f0 f1 x f3 f4 f5 f6 f7 := by
  obtain ⟨hb, hg⟩ := h
  exact ⟨by simpa using blk_set hb 2 (.int .i64 x), hg⟩
theorem cellS64_3 {W : World} {g : Nat} {f0 : Int} {f1 : Int} {f2 : Int} {f3 : Bool} {f4 : Bool} {f5 : Bool} {f6 : Bool} {f7 : Bool} (h : W.heap[g]? = some (.cells #[.int .i64 f0, .int .i64 f1, .int .i64 f2, .bool f3, .bool f4, .bool f5, .bool f6, .bool f7] 64 (0, 0))) : W.cell? ⟨g, 3, none⟩ = some (.bool f3) := (blk_cell h 3).trans rfl
theorem IsS64.set_3 {w0 W : World} {g : Nat} {f0 : Int} {f1 : Int} {f2 : Int} {f3 : Bool} {f4 : Bool} {f5 : Bool} {f6 : Bool} {f7 : Bool} (h : IsS64 w0 W g f0 f1 f2 f3 f4 f5 f6 f7) (x : Bool) : IsS64 w0 (W.setCell ⟨g, 3, none⟩ (.bool x)) g f0 f1 f2 x f4 f5 f6 f7 := by
  obtain ⟨hb, hg⟩ := h
  exact ⟨by simpa using blk_set hb 3 (.bool x), hg⟩
theorem cellS64_4 {W : World} {g : Nat} {f0 : Int} {f1 : Int} {f2 : Int} {f3 : Bool} {f4 : Bool} {f5 : Bool} {f6 : Bool} {f7 : Bool} (h : W.heap[g]? = some (.cells #[.int .i64 f0, .int .i64 f1, .int .i64 f2, .bool f3, .bool f4, .bool f5, .bool f6, .bool f7] 64 (0, 0))) : W.cell? ⟨g, 4, none⟩ = some (.bool f4) := (blk_cell h 4).trans rfl
theorem IsS64.set_4 {w0 W : World} {g : Nat} {f0 : Int} {f1 : Int} {f2 : Int} {f3 : Bool} {f4 : Bool} {f5 : Bool} {f6 : Bool} {f7 : Bool} (h : IsS64 w0 W g f0 f1 f2 f3 f4 f5 f6 f7) (x : Bool) : IsS64 w0 (W.setCell ⟨g, 4, none⟩ (.bool x)) g f0 f1 f2 f3 x f5 f6 f7 := by
  obtain ⟨hb, hg⟩ := h
  exact ⟨by simpa using blk_set hb 4 (.bool x), hg⟩
theorem cellS64_5 {W : World} {g : Nat} {f0 : Int} {f1 : Int} {f2 : Int} {f3 : Bool} {f4 : Bool} {f5 : Bool} {f6 : Bool} {f7 : Bool} (h : W.heap[g]? = some (.cells #[.int .i64 f0, .int .i64 f1, .int .i64 f2, .bool f3, .bool f4, .bool f5, .bool f6, .bool f7] 64 (0, 0))) : W.cell? ⟨g, 5, none⟩ = some (.bool f5) := (blk_cell h 5).trans rfl
theorem IsS64.set_5 {w0 W : World} {g : Nat} {f0 : Int} {f1 : Int} {f2 : Int} {f3 : Bool} {f4 : Bool} {f5 : Bool} {f6 : Bool} {f7 : Bool} (h : IsS64 w0 W g f0 f1 f2 f3 f4 f5 f6 f7) (x : Bool) : IsS64 w0 (W.setCell ⟨g, 5, none⟩ (.bool x)) g f0 f1 f2 f3 f4 x f6 f7 := by
  obtain ⟨hb, hg⟩ := h
  exact ⟨by simpa using blk_set hb 5 (.bool x), hg⟩
theorem cellS64_6 {W : World} {g : Nat} {f0 : Int} {f1 : Int} {f2 : Int} {f3 : Bool} {f4 : Bool} {f5 : Bool} {f6 : Bool} {f7 : Bool} (h : W.heap[g]? = some (.cells #[.int .i64 f0, .int .i64 f1, .int .i64 f2, .bool f3, .bool f4, .bool f5, .bool f6, .bool f7] 64 (0, 0))) : W.cell? ⟨g, 6, none⟩ = some (.bool f6) := (blk_cell h 6).trans rfl
theorem IsS64.set_6 {w0 W : World} {g : Nat} {f0 : Int} {f1 : Int} {f2 : Int} {f3 : Bool} {f4 : Bool} {f5 : Bool} {f6 : Bool} {f7 : Bool} (h : IsS64 w0 W g f0 f1 f2 f3 f4 f5 f6 f7) (x : Bool) : IsS64 w0 (W.setCell ⟨g, 6, none⟩ (.bool x)) g f0 f1 f2 f3 f4 f5 x f7 := by
  obtain ⟨hb, hg⟩ := h
  exact ⟨by simpa using blk_set hb 6 (.bool x), hg⟩
theorem cellS64_7 {W : World} {g : Nat} {f0 : Int} {f1 : Int} {f2 : Int} {f3 : Bool} {f4 : Bool} {f5 : Bool} {f6 : Bool} {f7 : Bool} (h : W.heap[g]? = some (.cells #[.int .i64 f0, .int .i64 f1, .int .i64 f2, .bool f3, .bool f4, .bool f5, .bool f6, .bool f7] 64 (0, 0))) : W.cell? ⟨g, 7, none⟩ = some (.bool f7) := (blk_cell h 7).trans rfl
theorem IsS64.set_7 {w0 W : World} {g : Nat} {f0 : Int} {f1 : Int} {f2 : Int} {f3 : Bool} {f4 : Bool} {f5 : Bool} {f6 : Bool} {f7 : Bool} (h : IsS64 w0 W g f0 f1 f2 f3 f4 f5 f6 f7) (x : Bool) : IsS64 w0 (W.setCell ⟨g, 7, none⟩ (.bool x)) g f0 f1 f2 f3 f4 f5 f6 x := by
  obtain ⟨hb, hg⟩ := h
  exact ⟨by simpa using blk_set hb 7 (.bool x), hg⟩
theorem IsS64.new (w0 W : World) (f0 : Int) (f1 : Int) (f2 : Int) (f3 : Bool) (f4 : Bool) (f5 : Bool) (f6 : Bool) (f7 : Bool) (hB : Below w0.heap.size w0 W) : IsS64 w0 (W.alloc (.cells #[.int .i64 f0, .int .i64 f1, .int .i64 f2, .bool f3, .bool f4, .bool f5, .bool f6, .bool f7] 64)) W.heap.size f0 f1 f2 f3 f4 f5 f6 f7 := ⟨by simpa using heap_alloc_new W _, hB.size⟩
def partitaref10_Walk_goTo.f (s0_0 : Int) (s0_1 : Int) (s0_2 : Int) (s0_3 : Bool) (s0_4 : Bool) (s0_5 : Bool) (s0_6 : Bool) (s0_7 : Bool) (a1 : Int) : Option (Int × Int × Int × Bool × Bool × Bool × Bool × Bool) := some (a1, 1, a1, false, s0_4, s0_5, s0_6, s0_7)
set_option maxHeartbeats 8000000 in
set_option maxRecDepth 100000 in
theorem partitaref10_Walk_goTo.calls (g : Nat) (s0_0 : Int) (s0_1 : Int) (s0_2 : Int) (s0_3 : Bool) (s0_4 : Bool) (s0_5 : Bool) (s0_6 : Bool) (s0_7 : Bool) (a1 : Int) (r1 : Int) (r2 : Int) (r3 : Int) (r4 : Bool) (r5 : Bool) (r6 : Bool) (r7 : Bool) (r8 : Bool) (w0 w : World) (hI : IsS64 w0 w g s0_0 s0_1 s0_2 s0_3 s0_4 s0_5 s0_6 s0_7) (hB : Below w0.heap.size w0 w) (h : partitaref10_Walk_goTo.f s0_0 s0_1 s0_2 s0_3 s0_4 s0_5 s0_6 s0_7 a1 = some (r1, r2, r3, r4, r5, r6, r7, r8)) :
    Calls Try.prog 43 #[.pointer (some ⟨g, 0, none⟩), .int .i64 a1] w fun e w' => e = .returned (.tuple #[]) ∧ IsS64 w0 w' g r1 r2 r3 r4 r5 r6 r7 r8 ∧ Below w0.heap.size w0 w' ∧ KeepBut w w' g none := by
  have HI0 := Aside0.mk hI
  have HK := Aside0.mk (KeepBut.refl w g none)
  have HL := Aside0.mk hB.size
  clear hI
  have HW0 := Aside0.mk hB.size
  have HB := Aside0.mk hB
  clear hB
  have H := h
  unfold partitaref10_Walk_goTo.f at H
  clear h
  simp only [Option.some.injEq, Prod.mk.injEq] at H
  obtain ⟨rfl, rfl, rfl, rfl, rfl, rfl, rfl, rfl⟩ := H
  have hz3 := cells8 HI0.out.1
  go_enter Try.func43, Try.ntmps43
  go_wp2
  first | go_end0 | ((try simp only [Exit.inBlock, Exit.then]); refine bodyPost_ret (results_none rfl _ _ _) rfl ?_)
  exact ⟨qq2, qq5, by repeat (first | (with_reducible first | exact HB.out | apply below_alloc | apply pw_below_drewN | apply below_drew1 | refine below_set ?_ (IsS64.ge HI0.out)) | exact HB.out), qq8⟩
def partitaref10_has.l0 : Nat → List Int → Int → Int → Option (Bool)
  | 0, _, _, _ => none
  | k + 1, x0, x1, x5 => if x5 < (x0.length : Int) then (if 0 ≤ x5 then (if (rd x0 x5) = x1 then (some true) else (partitaref10_has.l0 k x0 x1 (wrap64 (x5 + 1)))) else (none)) else (some false)
def partitaref10_has.f (k : Nat) (l0 : List Int) (a1 : Int) : Option (Bool) := partitaref10_has.l0 k l0 a1 0
theorem partitaref10_has.mono_l : ∀ k, (∀ y0 y1 y2, LeO (partitaref10_has.l0 k y0 y1 y2) (partitaref10_has.l0 (k + 1) y0 y1 y2))
  | 0 => fun _ _ _ r h => by simp [partitaref10_has.l0] at h
  | k + 1 => by
    have ih0 := partitaref10_has.mono_l k
    · intro y0 y1 y2
      unfold partitaref10_has.l0
      repeat' first
      | (with_reducible exact ih0 _ _ _)
      | (with_reducible exact LeO.refl _)
      | (with_reducible exact LeO.none _)
      | (with_reducible refine LeO.ite ?_ ?_)
      | (with_reducible refine LeO.bind ?_ (fun _ => ?_))
      | exact ih0 _ _ _
      | exact LeO.none _
      | refine LeO.ite ?_ ?_
      | refine LeO.bind ?_ (fun _ => ?_)
theorem partitaref10_has.mono : ∀ a0 a1 k, LeO (partitaref10_has.f k a0 a1) (partitaref10_has.f (k + 1) a0 a1) := by
  intro a0 a1 k
  have ih0 := partitaref10_has.mono_l k
  unfold partitaref10_has.f
  repeat' first
      | (with_reducible exact ih0 _ _ _)
      | (with_reducible exact LeO.refl _)
      | (with_reducible exact LeO.none _)
      | (with_reducible refine LeO.ite ?_ ?_)
      | (with_reducible refine LeO.bind ?_ (fun _ => ?_))
      | exact ih0 _ _ _
      | exact LeO.none _
      | refine LeO.ite ?_ ?_
      | refine LeO.bind ?_ (fun _ => ?_)
set_option maxHeartbeats 8000000 in
set_option maxRecDepth 100000 in
theorem partitaref10_has.calls (k : Nat) (A0 : Option Addr) (c0 : Nat) (l0 : List Int) (a1 : Int) (r : Bool) (w : World) (hr0 : Kd.C (Kd.int .i64) w A0 l0.length l0) (hc0 : l0.length ≤ c0) (h : partitaref10_has.f k l0 a1 = some r) :
    Calls Try.prog 50 #[.slice A0 l0.length c0, .int .i64 a1] w fun e w' => e = .returned (.bool r) ∧ Drawn0 w w' := by
  have HR0 := Aside0.mk hr0
  have HC0 := Aside0.mk hc0
  clear hr0 hc0
  have H := h
  unfold partitaref10_has.f at H
  clear h
  have H' := Aside0.mk H
  clear H
  go_enter Try.func50, Try.ntmps50
  go_wp2
  go_loopg [5] k (fun kq v5 w' => ∃ (x5_1 : Int), v5 = .int .i64 x5_1 ∧ Aside0 (partitaref10_has.l0 kq l0 a1 x5_1 = some r) ∧ Aside0 (kq ≤ k) ∧ Drawn0 w w')
  case atStart => exact ⟨(0), qq3, H', ⟨Nat.le_refl _⟩, qq6⟩
  case round =>
    clear H'
    try clear p2
    obtain ⟨x5_1, rfl, HA, HK1, ⟨m1, rfl⟩⟩ := hrel
    cases gk with
    | zero => exact absurd HA.out (by simp [partitaref10_has.l0])
    | succ k1 =>
      have H := HA.out
      clear HA
      simp only [partitaref10_has.l0] at H
      by_cases c3 : x5_1 < (l0.length : Int)
      rotate_left
      · rw [if_neg c3] at H
        have c3b0 : decide (x5_1 < (l0.length : Int)) = false := decide_eq_false c3
        clear c3
        obtain rfl := Option.some.inj H
        go_wp2
        go_ret
        exact ⟨qq3, qq6⟩
      rw [if_pos c3] at H
      have c3b0 : decide (x5_1 < (l0.length : Int)) = true := decide_eq_true c3
      clear c3
      by_cases c4 : 0 ≤ x5_1
      rotate_left
      · rw [if_neg c4] at H
        exact absurd H (by simp)
      rw [if_pos c4] at H
      have c4b0 : decide (0 ≤ x5_1) = true := decide_eq_true c4
      clear c4
      by_cases c5 : (rd l0 x5_1) = a1
      · rw [if_pos c5] at H
        have c5b0 : ((rd l0 x5_1) == a1) = true := beq_iff_eq.mpr c5
        have c5b1 : ((rd l0 x5_1) != a1) = false := bne_eq_false_iff_eq.mpr c5
        clear c5
        obtain rfl := Option.some.inj H
        have p101 : 0 ≤ (x5_1 : Int) := of_decide_eq_true qq0
        have q101 : x5_1 < (l0.length : Int) := of_decide_eq_true qq0
        obtain ⟨ad101, e101, hx101_0⟩ := Kd.at_int HR0.out x5_1 p101 q101
        cases e101
        replace p101 := eq_true p101
        replace q101 := eq_true q101
        go_wp2
        go_ret
        exact ⟨qq3, qq6⟩
      rw [if_neg c5] at H
      have c5b0 : ((rd l0 x5_1) == a1) = false := beq_eq_false_iff_ne.mpr c5
      have c5b1 : ((rd l0 x5_1) != a1) = true := bne_iff_ne.mpr c5
      have H' := Aside0.mk H
      clear H
      have p101 : 0 ≤ (x5_1 : Int) := of_decide_eq_true qq0
      have q101 : x5_1 < (l0.length : Int) := of_decide_eq_true qq0
      obtain ⟨ad101, e101, hx101_0⟩ := Kd.at_int HR0.out x5_1 p101 q101
      cases e101
      replace p101 := eq_true p101
      replace q101 := eq_true q101
      go_wp2
      go_roundg k1
      case measure => have := HK1.out; omega
      case rel => exact ⟨(wrap64 (x5_1 + 1)), qq3, H', ⟨qqP⟩, qq6⟩
def partitaref10_same.l0 : Nat → List Int → List Int → Int → Option (Bool)
  | 0, _, _, _ => none
  | k + 1, x0, x1, x5 => if x5 < (x0.length : Int) then (if 0 ≤ x5 then (if x5 < (x1.length : Int) then (if (rd x0 x5) = (rd x1 x5) then (partitaref10_same.l0 k x0 x1 (wrap64 (x5 + 1))) else (some false)) else (none)) else (none)) else (some true)
def partitaref10_same.f (k : Nat) (l0 : List Int) (l1 : List Int) : Option (Bool) := if (l0.length : Int) = (l1.length : Int) then (partitaref10_same.l0 k l0 l1 0) else (some false)
theorem partitaref10_same.mono_l : ∀ k, (∀ y0 y1 y2, LeO (partitaref10_same.l0 k y0 y1 y2) (partitaref10_same.l0 (k + 1) y0 y1 y2))
  | 0 => fun _ _ _ r h => by simp [partitaref10_same.l0] at h
  | k + 1 => by
    have ih0 := partitaref10_same.mono_l k
    · intro y0 y1 y2
      unfold partitaref10_same.l0
      repeat' first
      | (with_reducible exact ih0 _ _ _)
      | (with_reducible exact LeO.refl _)
      | (with_reducible exact LeO.none _)
      | (with_reducible refine LeO.ite ?_ ?_)
      | (with_reducible refine LeO.bind ?_ (fun _ => ?_))
      | exact ih0 _ _ _
      | exact LeO.none _
      | refine LeO.ite ?_ ?_
      | refine LeO.bind ?_ (fun _ => ?_)
theorem partitaref10_same.mono : ∀ a0 a1 k, LeO (partitaref10_same.f k a0 a1) (partitaref10_same.f (k + 1) a0 a1) := by
  intro a0 a1 k
  have ih0 := partitaref10_same.mono_l k
  unfold partitaref10_same.f
  repeat' first
      | (with_reducible exact ih0 _ _ _)
      | (with_reducible exact LeO.refl _)
      | (with_reducible exact LeO.none _)
      | (with_reducible refine LeO.ite ?_ ?_)
      | (with_reducible refine LeO.bind ?_ (fun _ => ?_))
      | exact ih0 _ _ _
      | exact LeO.none _
      | refine LeO.ite ?_ ?_
      | refine LeO.bind ?_ (fun _ => ?_)
set_option maxHeartbeats 8000000 in
set_option maxRecDepth 100000 in
theorem partitaref10_same.calls (k : Nat) (A0 : Option Addr) (c0 : Nat) (l0 : List Int) (A1 : Option Addr) (c1 : Nat) (l1 : List Int) (r : Bool) (w : World) (hr0 : Kd.C (Kd.int .i64) w A0 l0.length l0) (hc0 : l0.length ≤ c0) (hr1 : Kd.C (Kd.int .i64) w A1 l1.length l1) (hc1 : l1.length ≤ c1) (h : partitaref10_same.f k l0 l1 = some r) :
    Calls Try.prog 51 #[.slice A0 l0.length c0, .slice A1 l1.length c1] w fun e w' => e = .returned (.bool r) ∧ Drawn0 w w' := by
  have HR0 := Aside0.mk hr0
  have HC0 := Aside0.mk hc0
  clear hr0 hc0
  have HR1 := Aside0.mk hr1
  have HC1 := Aside0.mk hc1
  clear hr1 hc1
  have H := h
  unfold partitaref10_same.f at H
  clear h
  by_cases c3 : (l0.length : Int) = (l1.length : Int)
  rotate_left
  · rw [if_neg c3] at H
    have c3b0 : ((l0.length : Int) == (l1.length : Int)) = false := beq_eq_false_iff_ne.mpr c3
    have c3b1 : ((l0.length : Int) != (l1.length : Int)) = true := bne_iff_ne.mpr c3
    have c3b2 : (l0.length == l1.length) = false := by first | simpa using c3 | (simp at c3 ⊢; omega)
    obtain rfl := Option.some.inj H
    go_enter Try.func51, Try.ntmps51
    go_wp2
    repeat (go_quiet (fail); try go_wp2)
    go_ret
    exact ⟨qq3, qq6⟩
  rw [if_pos c3] at H
  have c3b0 : ((l0.length : Int) == (l1.length : Int)) = true := beq_iff_eq.mpr c3
  have c3b1 : ((l0.length : Int) != (l1.length : Int)) = false := bne_eq_false_iff_eq.mpr c3
  have c3b2 : (l0.length == l1.length) = true := by first | simpa using c3 | (simp at c3 ⊢; omega)
  clear c3
  have H' := Aside0.mk H
  clear H
  go_enter Try.func51, Try.ntmps51
  go_wp2
  repeat (go_quiet (fail); try go_wp2)
  go_loopg [5] k (fun kq v5 w' => ∃ (x5_1 : Int), v5 = .int .i64 x5_1 ∧ Aside0 (partitaref10_same.l0 kq l0 l1 x5_1 = some r) ∧ Aside0 (kq ≤ k) ∧ Drawn0 w w')
  case atStart => exact ⟨(0), qq3, H', ⟨Nat.le_refl _⟩, qq6⟩
  case round =>
    clear H'
    try clear c1
    try clear p2
    try clear c3
    try clear c3b0
    try clear c3b1
    try clear c3b2
    obtain ⟨x5_1, rfl, HA, HK1, ⟨m1, rfl⟩⟩ := hrel
    cases gk with
    | zero => exact absurd HA.out (by simp [partitaref10_same.l0])
    | succ k1 =>
      have H := HA.out
      clear HA
      simp only [partitaref10_same.l0] at H
      by_cases c4 : x5_1 < (l0.length : Int)
      rotate_left
      · rw [if_neg c4] at H
        have c4b0 : decide (x5_1 < (l0.length : Int)) = false := decide_eq_false c4
        clear c4
        obtain rfl := Option.some.inj H
        go_wp2
        repeat (go_quiet (fail); try go_wp2)
        go_ret
        exact ⟨qq3, qq6⟩
      rw [if_pos c4] at H
      have c4b0 : decide (x5_1 < (l0.length : Int)) = true := decide_eq_true c4
      clear c4
      by_cases c5 : 0 ≤ x5_1
      rotate_left
      · rw [if_neg c5] at H
        exact absurd H (by simp)
      rw [if_pos c5] at H
      have c5b0 : decide (0 ≤ x5_1) = true := decide_eq_true c5
      clear c5
      by_cases c6 : x5_1 < (l1.length : Int)
      rotate_left
      · rw [if_neg c6] at H
        exact absurd H (by simp)
      rw [if_pos c6] at H
      have c6b0 : decide (x5_1 < (l1.length : Int)) = true := decide_eq_true c6
      clear c6
      by_cases c7 : (rd l0 x5_1) = (rd l1 x5_1)
      rotate_left
      · rw [if_neg c7] at H
        have c7b0 : ((rd l0 x5_1) == (rd l1 x5_1)) = false := beq_eq_false_iff_ne.mpr c7
        have c7b1 : ((rd l0 x5_1) != (rd l1 x5_1)) = true := bne_iff_ne.mpr c7
        obtain rfl := Option.some.inj H
        have p101 : 0 ≤ (x5_1 : Int) := of_decide_eq_true qq0
        have q101 : x5_1 < (l0.length : Int) := of_decide_eq_true qq0
        obtain ⟨ad101, e101, hx101_0⟩ := Kd.at_int HR0.out x5_1 p101 q101
        cases e101
        replace p101 := eq_true p101
        replace q101 := eq_true q101
        have p102 : 0 ≤ (x5_1 : Int) := of_decide_eq_true qq0
        have q102 : x5_1 < (l1.length : Int) := of_decide_eq_true qq0
        obtain ⟨ad102, e102, hx102_0⟩ := Kd.at_int HR1.out x5_1 p102 q102
        cases e102
        replace p102 := eq_true p102
        replace q102 := eq_true q102
        go_wp2
        repeat (go_quiet (fail); try go_wp2)
        go_ret
        exact ⟨qq3, qq6⟩
      rw [if_pos c7] at H
      have c7b0 : ((rd l0 x5_1) == (rd l1 x5_1)) = true := beq_iff_eq.mpr c7
      have c7b1 : ((rd l0 x5_1) != (rd l1 x5_1)) = false := bne_eq_false_iff_eq.mpr c7
      clear c7
      have H' := Aside0.mk H
      clear H
      have p101 : 0 ≤ (x5_1 : Int) := of_decide_eq_true qq0
      have q101 : x5_1 < (l0.length : Int) := of_decide_eq_true qq0
      obtain ⟨ad101, e101, hx101_0⟩ := Kd.at_int HR0.out x5_1 p101 q101
      cases e101
      replace p101 := eq_true p101
      replace q101 := eq_true q101
      have p102 : 0 ≤ (x5_1 : Int) := of_decide_eq_true qq0
      have q102 : x5_1 < (l1.length : Int) := of_decide_eq_true qq0
      obtain ⟨ad102, e102, hx102_0⟩ := Kd.at_int HR1.out x5_1 p102 q102
      cases e102
      replace p102 := eq_true p102
      replace q102 := eq_true q102
      go_wp2
      repeat (go_quiet (fail); try go_wp2)
      go_roundg k1
      case measure => have := HK1.out; omega
      case rel => exact ⟨(wrap64 (x5_1 + 1)), qq3, H', ⟨qqP⟩, qq6⟩
def partitaref10_Walk_stands.l0 : Nat → List (S38) → List Int → Int → Int → Int → Int → Bool → Bool → Bool → Bool → Bool → Option (Bool × Int × Int × Int × Bool × Bool × Bool × Bool × Bool)
  | 0, _, _, _, _, _, _, _, _, _, _, _ => none
  | k + 1, x1, x5, x6, x1000, x1001, x1002, x1003, x1004, x1005, x1006, x1007 => if (wrap64 (x6 + 1)) < (x1.length : Int) then (if 0 ≤ (wrap64 (x6 + 1)) then (if (((rd_T38 x1 (wrap64 (x6 + 1))).f2).length : Int) > 0 then (partitaref10_Walk_stands.l0 k x1 x5 (wrap64 (x6 + 1)) x1000 x1001 x1002 x1003 x1004 x1005 x1006 x1007) else (if 0 ≤ x6 then (if x6 < (x1.length : Int) then ((partitaref10_same.f k x5 ((rd_T38 x1 x6).f2)).bind fun t105 => (some (t105, x1000, x1001, x1002, x1003, x1004, x1005, x1006, x1007))) else (none)) else (none))) else (none)) else (if 0 ≤ x6 then (if x6 < (x1.length : Int) then ((partitaref10_same.f k x5 ((rd_T38 x1 x6).f2)).bind fun t107 => (some (t107, x1000, x1001, x1002, x1003, x1004, x1005, x1006, x1007))) else (none)) else (none))
def partitaref10_Walk_stands.f (k : Nat) (s0_0 : Int) (s0_1 : Int) (s0_2 : Int) (s0_3 : Bool) (s0_4 : Bool) (s0_5 : Bool) (s0_6 : Bool) (s0_7 : Bool) (l1 : List (S38)) : Option (Bool × Int × Int × Int × Bool × Bool × Bool × Bool × Bool) := if 0 ≤ s0_0 then (if s0_0 < (l1.length : Int) then (if (((rd_T38 l1 s0_0).f2).length : Int) = 0 then (some (true, s0_0, s0_1, s0_2, s0_3, s0_4, s0_5, s0_6, s0_7)) else (if s0_4 = true then (partitaref10_Walk_stands.l0 k l1 ((rd_T38 l1 s0_0).f2) s0_0 s0_0 s0_1 s0_2 s0_3 s0_4 s0_5 s0_6 s0_7) else ((partitaref10_has.f k ((rd_T38 l1 s0_0).f2) s0_1).bind fun t102 => (some (t102, s0_0, s0_1, s0_2, s0_3, s0_4, s0_5, s0_6, s0_7))))) else (none)) else (none)
theorem partitaref10_Walk_stands.mono_l : ∀ k, (∀ y0 y1 y2 y3 y4 y5 y6 y7 y8 y9 y10, LeO (partitaref10_Walk_stands.l0 k y0 y1 y2 y3 y4 y5 y6 y7 y8 y9 y10) (partitaref10_Walk_stands.l0 (k + 1) y0 y1 y2 y3 y4 y5 y6 y7 y8 y9 y10))
  | 0 => fun _ _ _ _ _ _ _ _ _ _ _ r h => by simp [partitaref10_Walk_stands.l0] at h
  | k + 1 => by
    have ih0 := partitaref10_Walk_stands.mono_l k
    · intro y0 y1 y2 y3 y4 y5 y6 y7 y8 y9 y10
      unfold partitaref10_Walk_stands.l0
      repeat' first
      | (with_reducible exact ih0 _ _ _ _ _ _ _ _ _ _ _)
      | (with_reducible exact partitaref10_has.mono _ _ _)
      | (with_reducible exact partitaref10_same.mono _ _ _)
      | (with_reducible exact LeO.refl _)
      | (with_reducible exact LeO.none _)
      | (with_reducible refine LeO.ite ?_ ?_)
      | (with_reducible refine LeO.bind ?_ (fun _ => ?_))
      | exact ih0 _ _ _ _ _ _ _ _ _ _ _
      | exact partitaref10_has.mono _ _ _
      | exact partitaref10_same.mono _ _ _
      | exact LeO.none _
      | refine LeO.ite ?_ ?_
      | refine LeO.bind ?_ (fun _ => ?_)
theorem partitaref10_Walk_stands.mono : ∀ a0 a1 a2 a3 a4 a5 a6 a7 a8 k, LeO (partitaref10_Walk_stands.f k a0 a1 a2 a3 a4 a5 a6 a7 a8) (partitaref10_Walk_stands.f (k + 1) a0 a1 a2 a3 a4 a5 a6 a7 a8) := by
  intro a0 a1 a2 a3 a4 a5 a6 a7 a8 k
  have ih0 := partitaref10_Walk_stands.mono_l k
  unfold partitaref10_Walk_stands.f
  repeat' first
      | (with_reducible exact ih0 _ _ _ _ _ _ _ _ _ _ _)
      | (with_reducible exact partitaref10_has.mono _ _ _)
      | (with_reducible exact partitaref10_same.mono _ _ _)
      | (with_reducible exact LeO.refl _)
      | (with_reducible exact LeO.none _)
      | (with_reducible refine LeO.ite ?_ ?_)
      | (with_reducible refine LeO.bind ?_ (fun _ => ?_))
      | exact ih0 _ _ _ _ _ _ _ _ _ _ _
      | exact partitaref10_has.mono _ _ _
      | exact partitaref10_same.mono _ _ _
      | exact LeO.none _
      | refine LeO.ite ?_ ?_
      | refine LeO.bind ?_ (fun _ => ?_)
set_option maxHeartbeats 8000000 in
set_option maxRecDepth 100000 in
theorem partitaref10_Walk_stands.calls (k : Nat) (g : Nat) (s0_0 : Int) (s0_1 : Int) (s0_2 : Int) (s0_3 : Bool) (s0_4 : Bool) (s0_5 : Bool) (s0_6 : Bool) (s0_7 : Bool) (A1 : Option Addr) (c1 : Nat) (l1 : List (S38)) (r1 : Bool) (r2 : Int) (r3 : Int) (r4 : Int) (r5 : Bool) (r6 : Bool) (r7 : Bool) (r8 : Bool) (r9 : Bool) (w0 w : World) (hI : IsS64 w0 w g s0_0 s0_1 s0_2 s0_3 s0_4 s0_5 s0_6 s0_7) (hB : Below w0.heap.size w0 w) (hr1 : ∀ W_, KeepBut w W_ g none → Kd.C k38 W_ A1 l1.length l1) (hc1 : l1.length ≤ c1) (h : partitaref10_Walk_stands.f k s0_0 s0_1 s0_2 s0_3 s0_4 s0_5 s0_6 s0_7 l1 = some (r1, r2, r3, r4, r5, r6, r7, r8, r9)) :
    Calls Try.prog 44 #[.pointer (some ⟨g, 0, none⟩), .slice A1 l1.length c1] w fun e w' => e = .returned (.bool r1) ∧ IsS64 w0 w' g r2 r3 r4 r5 r6 r7 r8 r9 ∧ Below w0.heap.size w0 w' ∧ KeepBut w w' g none := by
  have HR1 := Aside0.mk hr1
  have HC1 := Aside0.mk hc1
  clear hr1 hc1
  have HI0 := Aside0.mk hI
  have HK := Aside0.mk (KeepBut.refl w g none)
  have HL := Aside0.mk hB.size
  clear hI
  have HW0 := Aside0.mk hB.size
  have HB := Aside0.mk hB
  clear hB
  have H := h
  unfold partitaref10_Walk_stands.f at H
  clear h
  by_cases c3 : 0 ≤ s0_0
  rotate_left
  · rw [if_neg c3] at H
    exact absurd H (by simp)
  rw [if_pos c3] at H
  have c3b0 : decide (0 ≤ s0_0) = true := decide_eq_true c3
  clear c3
  by_cases c4 : s0_0 < (l1.length : Int)
  rotate_left
  · rw [if_neg c4] at H
    exact absurd H (by simp)
  rw [if_pos c4] at H
  have c4b0 : decide (s0_0 < (l1.length : Int)) = true := decide_eq_true c4
  clear c4
  by_cases c5 : (((rd_T38 l1 s0_0).f2).length : Int) = 0
  · rw [if_pos c5] at H
    have c5b0 : ((((rd_T38 l1 s0_0).f2).length : Int) == 0) = true := beq_iff_eq.mpr c5
    have c5b1 : ((((rd_T38 l1 s0_0).f2).length : Int) != 0) = false := bne_eq_false_iff_eq.mpr c5
    clear c5
    simp only [Option.some.injEq, Prod.mk.injEq] at H
    obtain ⟨rfl, rfl, rfl, rfl, rfl, rfl, rfl, rfl, rfl⟩ := H
    have hz6 := cells8 HI0.out.1
    have p101 : 0 ≤ (s0_0 : Int) := of_decide_eq_true qq0
    have q101 : s0_0 < (l1.length : Int) := of_decide_eq_true qq0
    obtain ⟨ad101, A101_2, c101_2, e101, hx101_0, hx101_1, hx101_2, hx101_3, hx101_4, hx101_5, hx101_6, hx101_7, hl101_2, hi101_2⟩ := at_T38 (Kd.C_foot_now HR1.out HK.out) s0_0 p101 q101
    cases e101
    have HR101_2 := Aside0.mk hi101_2
    have HC101_2 := Aside0.mk hl101_2
    clear hi101_2 hl101_2
    replace p101 := eq_true p101
    replace q101 := eq_true q101
    go_enter Try.func44, Try.ntmps44
    go_wp2
    go_ret
    exact ⟨qq2, qq5, by repeat (first | (with_reducible first | exact HB.out | apply below_alloc | apply pw_below_drewN | apply below_drew1 | refine below_set ?_ (IsS64.ge HI0.out)) | exact HB.out), qq8⟩
  rw [if_neg c5] at H
  have c5b0 : ((((rd_T38 l1 s0_0).f2).length : Int) == 0) = false := beq_eq_false_iff_ne.mpr c5
  have c5b1 : ((((rd_T38 l1 s0_0).f2).length : Int) != 0) = true := bne_iff_ne.mpr c5
  have c5b2 : ¬ (((rd_T38 l1 s0_0).f2) = []) := fun h_ => c5 (by rw [h_]; rfl)
  by_cases c7 : s0_4 = true
  rotate_left
  · replace c7 := Bool.eq_false_iff.mpr c7
    subst c7
    have H1 : ((partitaref10_has.f k ((rd_T38 l1 s0_0).f2) s0_1).bind fun t102 => (some (t102, s0_0, s0_1, s0_2, s0_3, false, s0_5, s0_6, s0_7))) = some (r1, r2, r3, r4, r5, r6, r7, r8, r9) := by rw [if_neg (show ¬ (false = true) by decide)] at H; exact H
    clear H
    have H := H1
    clear H1
    replace H := Option.bind_eq_some_iff.mp H
    obtain ⟨t102, A190, H⟩ := H
    try dsimp -simprocs only at H
    have A19 := Aside0.mk A190
    clear A190
    simp only [Option.some.injEq, Prod.mk.injEq] at H
    obtain ⟨rfl, rfl, rfl, rfl, rfl, rfl, rfl, rfl, rfl⟩ := H
    have hz20 := cells8 HI0.out.1
    have p101 : 0 ≤ (s0_0 : Int) := of_decide_eq_true qq0
    have q101 : s0_0 < (l1.length : Int) := of_decide_eq_true qq0
    obtain ⟨ad101, A101_2, c101_2, e101, hx101_0, hx101_1, hx101_2, hx101_3, hx101_4, hx101_5, hx101_6, hx101_7, hl101_2, hi101_2⟩ := at_T38 (Kd.C_foot_now HR1.out HK.out) s0_0 p101 q101
    cases e101
    have HR101_2 := Aside0.mk hi101_2
    have HC101_2 := Aside0.mk hl101_2
    clear hi101_2 hl101_2
    replace p101 := eq_true p101
    replace q101 := eq_true q101
    go_enter Try.func44, Try.ntmps44
    go_wp2_with (first | ((with_reducible refine gate_callee (f := 50) rfl ?_); refine goesL_ (some 28) rfl rfl Try.func50 (by kernel_rfl) rfl #[.slice A101_2 ((rd_T38 l1 s0_0).f2).length c101_2, .int .i64 s0_1] rfl qq1 ?_; (with_reducible refine (partitaref10_has.calls k _ _ ((rd_T38 l1 s0_0).f2) s0_1 t102 _ ?side1 ?side2 A19.out).mono ?_); (case side1 => repeat (first | exact (by repeat (first | (with_reducible exact HR101_2.out) | (with_reducible refine Kd.C_alloc ?_ _) | (with_reducible refine Kd.C_drewN ?_ _) | (with_reducible refine Kd.C_drew ?_) | exact HR101_2.out)) | (with_reducible refine Kd.C_alloc ?_ _) | (with_reducible refine Kd.C_drewN ?_ _) | (with_reducible refine Kd.C_drew ?_))); (case side2 => exact HC101_2.out); rintro e w' ⟨rfl, ⟨nd, rfl⟩⟩; refine ⟨_, rfl, ?_⟩))
    go_ret
    exact ⟨qq2, qq5, by repeat (first | (with_reducible first | exact HB.out | apply below_alloc | apply pw_below_drewN | apply below_drew1 | refine below_set ?_ (IsS64.ge HI0.out)) | exact HB.out), qq8⟩
  subst c7
  have H1 : (partitaref10_Walk_stands.l0 k l1 ((rd_T38 l1 s0_0).f2) s0_0 s0_0 s0_1 s0_2 s0_3 true s0_5 s0_6 s0_7) = some (r1, r2, r3, r4, r5, r6, r7, r8, r9) := by rw [if_pos rfl] at H; exact H
  clear H
  have H := H1
  clear H1
  have H' := Aside0.mk H
  clear H
  have hz8 := cells8 HI0.out.1
  have p101 : 0 ≤ (s0_0 : Int) := of_decide_eq_true qq0
  have q101 : s0_0 < (l1.length : Int) := of_decide_eq_true qq0
  obtain ⟨ad101, A101_2, c101_2, e101, hx101_0, hx101_1, hx101_2, hx101_3, hx101_4, hx101_5, hx101_6, hx101_7, hl101_2, hi101_2⟩ := at_T38 (Kd.C_foot_now HR1.out HK.out) s0_0 p101 q101
  cases e101
  have HR101_2 := Aside0.mk hi101_2
  have HC101_2 := Aside0.mk hl101_2
  clear hi101_2 hl101_2
  replace p101 := eq_true p101
  replace q101 := eq_true q101
  go_enter Try.func44, Try.ntmps44
  go_wp2
  go_loopg [6] k (fun kq v6 w' => ∃ (x6_1 : Int), v6 = .int .i64 x6_1 ∧ Aside0 (partitaref10_Walk_stands.l0 kq l1 ((rd_T38 l1 s0_0).f2) x6_1 s0_0 s0_1 s0_2 s0_3 true s0_5 s0_6 s0_7 = some (r1, r2, r3, r4, r5, r6, r7, r8, r9)) ∧ Aside0 (kq ≤ k) ∧ Aside0 (Kd.C (Kd.int .i64) w' A101_2 ((rd_T38 l1 s0_0).f2).length ((rd_T38 l1 s0_0).f2)) ∧ Aside0 (IsS64 w0 w' g s0_0 s0_1 s0_2 s0_3 true s0_5 s0_6 s0_7) ∧ Aside0 (KeepBut w w' g none) ∧ Aside0 (Below w0.heap.size w0 w'))
  case atStart => exact ⟨(s0_0), qq3, H', ⟨Nat.le_refl _⟩, ⟨by repeat (first | (with_reducible exact HR101_2.out) | (with_reducible refine Kd.C_alloc ?_ _) | (with_reducible refine Kd.C_drewN ?_ _) | (with_reducible refine Kd.C_drew ?_) | exact HR101_2.out)⟩, ⟨qq5⟩, ⟨qq8⟩, ⟨by repeat (first | (with_reducible first | exact HB.out | apply below_alloc | apply pw_below_drewN | apply below_drew1 | refine below_set ?_ (IsS64.ge HI0.out)) | exact HB.out)⟩⟩
  case round =>
    clear H'
    try clear c1
    try clear p1
    try clear q1
    try clear hx1
    try clear p2
    try clear c3
    try clear c3b0
    try clear c4
    try clear c4b0
    try clear c5
    try clear c5b0
    try clear c5b1
    try clear c5b2
    try clear c7
    try clear hx101_0
    try clear hx101_1
    try clear hx101_2
    try clear hx101_3
    try clear hx101_4
    try clear hx101_5
    try clear hx101_6
    try clear hx101_7
    try clear p101
    try clear q101
    obtain ⟨x6_1, rfl, HA, HK1, HR101_2, HI0, HK, HB⟩ := hrel
    cases gk with
    | zero => exact absurd HA.out (by simp [partitaref10_Walk_stands.l0])
    | succ k1 =>
      have H := HA.out
      clear HA
      simp only [partitaref10_Walk_stands.l0] at H
      by_cases c9 : (wrap64 (x6_1 + 1)) < (l1.length : Int)
      rotate_left
      · rw [if_neg c9] at H
        have c9b0 : decide ((wrap64 (x6_1 + 1)) < (l1.length : Int)) = false := decide_eq_false c9
        clear c9
        by_cases c16 : 0 ≤ x6_1
        rotate_left
        · rw [if_neg c16] at H
          exact absurd H (by simp)
        rw [if_pos c16] at H
        have c16b0 : decide (0 ≤ x6_1) = true := decide_eq_true c16
        clear c16
        by_cases c17 : x6_1 < (l1.length : Int)
        rotate_left
        · rw [if_neg c17] at H
          exact absurd H (by simp)
        rw [if_pos c17] at H
        have c17b0 : decide (x6_1 < (l1.length : Int)) = true := decide_eq_true c17
        clear c17
        replace H := Option.bind_eq_some_iff.mp H
        obtain ⟨t107, A180, H⟩ := H
        try dsimp -simprocs only at H
        have A18 := Aside0.mk A180
        clear A180
        simp only [Option.some.injEq, Prod.mk.injEq] at H
        obtain ⟨rfl, rfl, rfl, rfl, rfl, rfl, rfl, rfl, rfl⟩ := H
        have p106 : 0 ≤ (x6_1 : Int) := of_decide_eq_true qq0
        have q106 : x6_1 < (l1.length : Int) := of_decide_eq_true qq0
        obtain ⟨ad106, A106_2, c106_2, e106, hx106_0, hx106_1, hx106_2, hx106_3, hx106_4, hx106_5, hx106_6, hx106_7, hl106_2, hi106_2⟩ := at_T38 (Kd.C_foot_now HR1.out HK.out) x6_1 p106 q106
        obtain rfl : ad101 = ad106 := (by injection e106)
        have HR106_2 := Aside0.mk hi106_2
        have HC106_2 := Aside0.mk hl106_2
        clear hi106_2 hl106_2
        replace p106 := eq_true p106
        replace q106 := eq_true q106
        go_wp2_with (first | ((with_reducible refine gate_callee (f := 51) rfl ?_); refine goesL_ (some 56) rfl rfl Try.func51 (by kernel_rfl) rfl #[.slice A101_2 ((rd_T38 l1 s0_0).f2).length c101_2, .slice A106_2 ((rd_T38 l1 x6_1).f2).length c106_2] rfl qq1 ?_; (with_reducible refine (partitaref10_same.calls k1 _ _ ((rd_T38 l1 s0_0).f2) _ _ ((rd_T38 l1 x6_1).f2) t107 _ ?side1 ?side2 ?side3 ?side4 A18.out).mono ?_); (case side1 => first | exact HR101_2.out | exact Kd.C_keep 0 HR101_2.out qq8 hf101_2); (case side2 => exact HC101_2.out); (case side3 => repeat (first | exact (by repeat (first | (with_reducible exact HR106_2.out) | (with_reducible refine Kd.C_alloc ?_ _) | (with_reducible refine Kd.C_drewN ?_ _) | (with_reducible refine Kd.C_drew ?_) | exact HR106_2.out)) | (with_reducible refine Kd.C_alloc ?_ _) | (with_reducible refine Kd.C_drewN ?_ _) | (with_reducible refine Kd.C_drew ?_))); (case side4 => exact HC106_2.out); rintro e w' ⟨rfl, ⟨nd, rfl⟩⟩; refine ⟨_, rfl, ?_⟩))
        go_ret
        exact ⟨qq2, qq5, by repeat (first | (with_reducible first | exact HB.out | apply below_alloc | apply pw_below_drewN | apply below_drew1 | refine below_set ?_ (IsS64.ge HI0.out)) | exact HB.out), qq8⟩
      rw [if_pos c9] at H
      have c9b0 : decide ((wrap64 (x6_1 + 1)) < (l1.length : Int)) = true := decide_eq_true c9
      clear c9
      obtain ⟨ji10, hji10⟩ : ∃ j_ : Int, (wrap64 (x6_1 + 1)) = j_ := ⟨_, rfl⟩
      replace H : (if 0 ≤ (ji10) then (if (((rd_T38 l1 (ji10)).f2).length : Int) > 0 then (partitaref10_Walk_stands.l0 k1 l1 ((rd_T38 l1 s0_0).f2) ji10 s0_0 s0_1 s0_2 s0_3 true s0_5 s0_6 s0_7) else (if 0 ≤ x6_1 then (if x6_1 < (l1.length : Int) then ((partitaref10_same.f k1 ((rd_T38 l1 s0_0).f2) ((rd_T38 l1 x6_1).f2)).bind fun t105 => (some (t105, s0_0, s0_1, s0_2, s0_3, true, s0_5, s0_6, s0_7))) else (none)) else (none))) else (none)) = some (r1, r2, r3, r4, r5, r6, r7, r8, r9) := by first | (rw [hji10] at H; exact H) | (simp only [hji10] at H ⊢; exact H)
      (try rw [hji10] at c9b0)
      have hji10w : (IntKind.i64.wrap (x6_1 + 1)) = ji10 := (i64_w _).trans hji10
      by_cases c11 : 0 ≤ (ji10)
      rotate_left
      · rw [if_neg c11] at H
        exact absurd H (by simp)
      rw [if_pos c11] at H
      have c11b0 : decide (0 ≤ (ji10)) = true := decide_eq_true c11
      clear c11
      by_cases c12 : (((rd_T38 l1 (ji10)).f2).length : Int) > 0
      · rw [if_pos c12] at H
        have c12b0 : decide (0 < (((rd_T38 l1 (ji10)).f2).length : Int)) = true := decide_eq_true c12
        have c12b1 : decide (0 < ((rd_T38 l1 (ji10)).f2).length) = true := decide_eq_true (by omega)
        clear c12
        have H' := Aside0.mk H
        clear H
        have p103 : 0 ≤ ((ji10) : Int) := of_decide_eq_true qq0
        have q103 : (ji10) < (l1.length : Int) := of_decide_eq_true qq0
        obtain ⟨ad103, A103_2, c103_2, e103, hx103_0, hx103_1, hx103_2, hx103_3, hx103_4, hx103_5, hx103_6, hx103_7, hl103_2, hi103_2⟩ := at_T38 (Kd.C_foot_now HR1.out HK.out) (ji10) p103 q103
        obtain rfl : ad101 = ad103 := (by injection e103)
        have HR103_2 := Aside0.mk hi103_2
        have HC103_2 := Aside0.mk hl103_2
        clear hi103_2 hl103_2
        replace p103 := eq_true p103
        replace q103 := eq_true q103
        go_wp2
        go_roundg k1
        case measure => have := HK1.out; omega
        case rel => exact ⟨(ji10), (by first | rfl | (simp; done) | (simp only [← hji10] <;> (first | rfl | simp)) | (simp [*]; done)), H', ⟨qqP⟩, ⟨by repeat (first | (with_reducible exact HR101_2.out) | (with_reducible refine Kd.C_alloc ?_ _) | (with_reducible refine Kd.C_drewN ?_ _) | (with_reducible refine Kd.C_drew ?_) | exact HR101_2.out)⟩, ⟨qq5⟩, ⟨qq8⟩, ⟨by repeat (first | (with_reducible first | exact HB.out | apply below_alloc | apply pw_below_drewN | apply below_drew1 | refine below_set ?_ (IsS64.ge HI0.out)) | exact HB.out)⟩⟩
      rw [if_neg c12] at H
      have c12b0 : decide (0 < (((rd_T38 l1 (ji10)).f2).length : Int)) = false := decide_eq_false c12
      have c12b1 : decide (0 < ((rd_T38 l1 (ji10)).f2).length) = false := decide_eq_false (by omega)
      clear c12
      by_cases c13 : 0 ≤ x6_1
      rotate_left
      · rw [if_neg c13] at H
        exact absurd H (by simp)
      rw [if_pos c13] at H
      have c13b0 : decide (0 ≤ x6_1) = true := decide_eq_true c13
      clear c13
      by_cases c14 : x6_1 < (l1.length : Int)
      rotate_left
      · rw [if_neg c14] at H
        exact absurd H (by simp)
      rw [if_pos c14] at H
      have c14b0 : decide (x6_1 < (l1.length : Int)) = true := decide_eq_true c14
      clear c14
      replace H := Option.bind_eq_some_iff.mp H
      obtain ⟨t105, A150, H⟩ := H
      try dsimp -simprocs only at H
      have A15 := Aside0.mk A150
      clear A150
      simp only [Option.some.injEq, Prod.mk.injEq] at H
      obtain ⟨rfl, rfl, rfl, rfl, rfl, rfl, rfl, rfl, rfl⟩ := H
      have p103 : 0 ≤ ((ji10) : Int) := of_decide_eq_true qq0
      have q103 : (ji10) < (l1.length : Int) := of_decide_eq_true qq0
      obtain ⟨ad103, A103_2, c103_2, e103, hx103_0, hx103_1, hx103_2, hx103_3, hx103_4, hx103_5, hx103_6, hx103_7, hl103_2, hi103_2⟩ := at_T38 (Kd.C_foot_now HR1.out HK.out) (ji10) p103 q103
      obtain rfl : ad101 = ad103 := (by injection e103)
      have HR103_2 := Aside0.mk hi103_2
      have HC103_2 := Aside0.mk hl103_2
      clear hi103_2 hl103_2
      replace p103 := eq_true p103
      replace q103 := eq_true q103
      have p104 : 0 ≤ (x6_1 : Int) := of_decide_eq_true qq0
      have q104 : x6_1 < (l1.length : Int) := of_decide_eq_true qq0
      obtain ⟨ad104, A104_2, c104_2, e104, hx104_0, hx104_1, hx104_2, hx104_3, hx104_4, hx104_5, hx104_6, hx104_7, hl104_2, hi104_2⟩ := at_T38 (Kd.C_foot_now HR1.out HK.out) x6_1 p104 q104
      obtain rfl : ad101 = ad104 := (by injection e104)
      have HR104_2 := Aside0.mk hi104_2
      have HC104_2 := Aside0.mk hl104_2
      clear hi104_2 hl104_2
      replace p104 := eq_true p104
      replace q104 := eq_true q104
      go_wp2_with (first | ((with_reducible refine gate_callee (f := 51) rfl ?_); refine goesL_ (some 56) rfl rfl Try.func51 (by kernel_rfl) rfl #[.slice A101_2 ((rd_T38 l1 s0_0).f2).length c101_2, .slice A104_2 ((rd_T38 l1 x6_1).f2).length c104_2] rfl qq1 ?_; (with_reducible refine (partitaref10_same.calls k1 _ _ ((rd_T38 l1 s0_0).f2) _ _ ((rd_T38 l1 x6_1).f2) t105 _ ?side1 ?side2 ?side3 ?side4 A15.out).mono ?_); (case side1 => first | exact HR101_2.out | exact Kd.C_keep 0 HR101_2.out qq8 hf101_2); (case side2 => exact HC101_2.out); (case side3 => repeat (first | exact (by repeat (first | (with_reducible exact HR104_2.out) | (with_reducible refine Kd.C_alloc ?_ _) | (with_reducible refine Kd.C_drewN ?_ _) | (with_reducible refine Kd.C_drew ?_) | exact HR104_2.out)) | (with_reducible refine Kd.C_alloc ?_ _) | (with_reducible refine Kd.C_drewN ?_ _) | (with_reducible refine Kd.C_drew ?_))); (case side4 => exact HC104_2.out); rintro e w' ⟨rfl, ⟨nd, rfl⟩⟩; refine ⟨_, rfl, ?_⟩))
      go_ret
      exact ⟨by first | rfl | (simp [errW_none, errW_some] <;> rfl) | (simp only [← hji10]; first | rfl | (simp [errW_none, errW_some] <;> rfl)) | (simp [*, errW_none, errW_some] <;> rfl), qq5, by repeat (first | (with_reducible first | exact HB.out | apply below_alloc | apply pw_below_drewN | apply below_drew1 | refine below_set ?_ (IsS64.ge HI0.out)) | exact HB.out), qq8⟩
end Go.Proofs.Ytendmmagjjhfnaa.M
