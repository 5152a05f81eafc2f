/- Printed by a program of this session (wip/tools), out of the translation: functions with the same answers as the Go code, and the contracts of the code. Lean checks it. -/
import Derived.Test.YtmeefdaanjaoaaaM0
import Derived.Test.YtmeefdaanjaoaaaM4
import Derived.Test.YtmeefdaanjaoaaaM7
import Derived.Test.YtmeefdaanjaoaaaM9
import Derived.Test.YtmeefdaanjaoaaaM18
import Derived.Test.YtmeefdaanjaoaaaM25
namespace Go.Proofs.Ytmeefdaanjaoaaa.M
open Go.RowKit Go.Proofs.YtmeefdaanjaoaaaW.PrintWords Go.Proofs.YtmeefdaanjaoaaaW.PrintLast Go.Proofs.YtmeefdaanjaoaaaW.PrintMore
attribute [local go_sem] max2_int min2_int max_two min_two max_three min_three max_four min_four   -- for this text's walks alone
set_option linter.unusedVariables false
set_option linter.unusedSimpArgs false

/-! ### partitalaw15_WireRunning: function 13 -/
def partitalaw15_WireRunning.l0 : Nat → List (S31) → Int → Int → Bool → List (S31) → Int → Int → Option (Bool)
  | 0, _, _, _, _, _, _, _ => none
  | k + 1, x0, x1, x2, x7, x8, x9, x10 => if x10 < (x0.length : Int) then (if 0 ≤ x10 then ((wire_Right.f k ((rd_T31 x0 x10).f0) (wrap64 (8 + (Int.tmod (wrap64 (x1)) 4))) (Int.tmod (wrap64 (x2)) 16) ((rd_T31 x0 x10).f3) ((rd_T31 x0 x10).f4) (⟨#[]⟩ : ByteArray)).bind fun t459 => (if t459 = true then ((wire_Vlq.f ((rd_T31 x0 x10).f0)).bind fun bt460 => (if x8.length < 2513169434916 then (partitalaw15_WireRunning.l0 k x0 x1 x2 x7 (x8 ++ [(⟨(rd_T31 x0 x10).f0, wrap64 (8 + (Int.tmod (wrap64 (x1)) 4)), Int.tmod (wrap64 (x2)) 16, (rd_T31 x0 x10).f3, (rd_T31 x0 x10).f4, (⟨#[]⟩ : ByteArray)⟩ : S31)]) (wrap64 ((wrap64 (x9 + (bt460.1.size : Int))) + 2)) (wrap64 (x10 + 1))) else (none))) else (partitalaw15_WireRunning.l0 k x0 x1 x2 x7 x8 x9 (wrap64 (x10 + 1))))) else (none)) else ((wire_Encode.f k x8).bind fun bt455 => (if x7 = true then (if bt455.2 = 0 then (if (x8.length : Int) = 0 then (if bt455.1.toList = ([] : List UInt8) then (some true) else (some ((bt455.1.size : Int) == (wrap64 (x9 + 1))))) else (some ((bt455.1.size : Int) == (wrap64 (x9 + 1))))) else (some false)) else (some false)))
def partitalaw15_WireRunning.f (k : Nat) (l0 : List (S31)) (a1 : Int) (a2 : Int) : Option (Bool) := (partitalaw15_awake.f k).bind fun t453 => ((partitaref15_Few.f k l0).bind fun t454 => (if t454 = true then (partitalaw15_WireRunning.l0 k l0 a1 a2 t453 ([] : List (S31)) 0 0) else (some t453)))
theorem partitalaw15_WireRunning.mono_l : ∀ k, (∀ y0 y1 y2 y3 y4 y5 y6, LeO (partitalaw15_WireRunning.l0 k y0 y1 y2 y3 y4 y5 y6) (partitalaw15_WireRunning.l0 (k + 1) y0 y1 y2 y3 y4 y5 y6))
  | 0 => fun _ _ _ _ _ _ _ r h => by simp [partitalaw15_WireRunning.l0] at h
  | k + 1 => by
    have ih0 := partitalaw15_WireRunning.mono_l k
    · intro y0 y1 y2 y3 y4 y5 y6
      unfold partitalaw15_WireRunning.l0
      repeat' first
      | (with_reducible exact ih0 _ _ _ _ _ _ _)
      | (with_reducible exact partitalaw15_awake.mono _)
      | (with_reducible exact partitaref15_Few.mono _ _)
      | (with_reducible exact wire_Encode.mono _ _)
      | (with_reducible exact wire_Right.mono _ _ _ _ _ _ _)
      | (with_reducible exact LeO.refl _)
      | (with_reducible exact LeO.none _)
      | (with_reducible refine LeO.ite ?_ ?_)
      | (with_reducible refine LeO.bind ?_ (fun _ => ?_))
      | exact ih0 _ _ _ _ _ _ _
      | exact partitalaw15_awake.mono _
      | exact partitaref15_Few.mono _ _
      | exact wire_Encode.mono _ _
      | exact wire_Right.mono _ _ _ _ _ _ _
      | exact LeO.none _
      | refine LeO.ite ?_ ?_
      | refine LeO.bind ?_ (fun _ => ?_)
theorem partitalaw15_WireRunning.mono : ∀ a0 a1 a2 k, LeO (partitalaw15_WireRunning.f k a0 a1 a2) (partitalaw15_WireRunning.f (k + 1) a0 a1 a2) := by
  intro a0 a1 a2 k
  have ih0 := partitalaw15_WireRunning.mono_l k
  unfold partitalaw15_WireRunning.f
  repeat' first
      | (with_reducible exact ih0 _ _ _ _ _ _ _)
      | (with_reducible exact partitalaw15_awake.mono _)
      | (with_reducible exact partitaref15_Few.mono _ _)
      | (with_reducible exact wire_Encode.mono _ _)
      | (with_reducible exact wire_Right.mono _ _ _ _ _ _ _)
      | (with_reducible exact LeO.refl _)
      | (with_reducible exact LeO.none _)
      | (with_reducible refine LeO.ite ?_ ?_)
      | (with_reducible refine LeO.bind ?_ (fun _ => ?_))
      | exact ih0 _ _ _ _ _ _ _
      | exact partitalaw15_awake.mono _
      | exact partitaref15_Few.mono _ _
      | exact wire_Encode.mono _ _
      | exact wire_Right.mono _ _ _ _ _ _ _
      | exact LeO.none _
      | refine LeO.ite ?_ ?_
      | refine LeO.bind ?_ (fun _ => ?_)
set_option maxHeartbeats 8000000 in
set_option maxRecDepth 100000 in
theorem partitalaw15_WireRunning.calls (k : Nat) (A0 : Option Addr) (c0 : Nat) (l0 : List (S31)) (a1 : Int) (a2 : Int) (r : Bool) (w : World) (hr0 : Kd.C k31 w A0 l0.length l0) (hc0 : l0.length ≤ c0) (h : partitalaw15_WireRunning.f k l0 a1 a2 = some r) :
    Calls Try.prog 13 #[.slice A0 l0.length c0, .int .u8 a1, .int .u8 a2] w fun e w' => e = .returned (.bool r) ∧ Below w.heap.size w w' := by
  have hu31 := Try.underlying31
  have HR0 := Aside0.mk hr0
  have HC0 := Aside0.mk hc0
  clear hr0 hc0
  have HB := Aside0.mk (Below.refl w.heap.size w)
  have H : ((partitalaw15_awake.f k).bind fun t453 => ((partitaref15_Few.f k l0).bind fun t454 => (if t454 = true then (partitalaw15_WireRunning.l0 k l0 a1 a2 t453 ([] : List (S31)) 0 0) else (some t453)))) = some r := h
  clear h
  replace H := Option.bind_eq_some_iff.mp H
  obtain ⟨t453, A40, H⟩ := H
  replace H : ((partitaref15_Few.f k l0).bind fun t454 => (if t454 = true then (partitalaw15_WireRunning.l0 k l0 a1 a2 t453 ([] : List (S31)) 0 0) else (some t453))) = some r := H
  have A4 := Aside0.mk A40
  clear A40
  replace H := Option.bind_eq_some_iff.mp H
  obtain ⟨t454, A50, H⟩ := H
  replace H : (if t454 = true then (partitalaw15_WireRunning.l0 k l0 a1 a2 t453 ([] : List (S31)) 0 0) else (some t453)) = some r := H
  have A5 := Aside0.mk A50
  clear A50
  by_cases c6 : t454 = true
  · subst c6
    have H1 : (partitalaw15_WireRunning.l0 k l0 a1 a2 t453 ([] : List (S31)) 0 0) = some r := by rw [if_pos rfl] at H; exact H
    clear H
    have H := H1
    clear H1
    have H' := Aside0.mk H
    clear H
    go_enter Try.func13, Try.ntmps13
    go_wp2_with (first | ((with_reducible refine gate_callee (f := 14) rfl ?_); refine goesL_ (some 16) rfl rfl Try.func14 (by kernel_rfl) rfl #[] rfl (by (try simp only [List.map_toArray, List.map_cons, List.map_nil]); first | done | rfl | (simp only [List.length_drop, List.length_take]; rfl)) ?_; (with_reducible refine (partitalaw15_awake.calls k  t453 _ A4.out).mono ?_); rintro e w7 ⟨rfl, hb⟩; refine ⟨_, rfl, ?_⟩; have n0_ := Aside0.mk (below_step (by repeat (first | (with_reducible first | exact HB.out | apply below_alloc | apply pw_below_drewN | apply below_drew1) | exact HB.out)) hb); clear HB; have HB := n0_; clear n0_; (try clear hb); (try clear hb2); (try clear hk); (try clear hi)) | ((with_reducible refine gate_callee (f := 21) rfl ?_); refine goesL_ (some 18) rfl rfl Try.func21 (by kernel_rfl) rfl #[.slice A0 l0.length c0] rfl (by (try simp only [List.map_toArray, List.map_cons, List.map_nil]); first | done | rfl | (simp only [List.length_drop, List.length_take]; rfl)) ?_; (with_reducible refine (partitaref15_Few.calls k _ _ l0 true _ ?side1 ?side2 A5.out).mono ?_); (case side1 => repeat (first | exact (Kd.C_below HR0.out HB.out) | (with_reducible refine Kd.C_alloc ?_ _) | (with_reducible refine Kd.C_drewN ?_ _) | (with_reducible refine Kd.C_drew ?_))); (case side2 => exact HC0.out); rintro e w' ⟨rfl, ⟨nd, rfl⟩⟩; refine ⟨_, rfl, ?_⟩))
    go_loopg [8, 9, 10] k (fun kq v8 v9 v10 w' => ∃ (x8_1 : List (S31)) (x9_1 : Int) (x10_1 : Int), v9 = .int .i64 x9_1 ∧ v10 = .int .i64 x10_1 ∧ Aside0 (partitalaw15_WireRunning.l0 kq l0 a1 a2 t453 x8_1 x9_1 x10_1 = some r) ∧ Aside0 (kq ≤ k) ∧ Aside0 (Kd.R k31 31 w' w.heap.size (fun _ => True) v8 x8_1) ∧ Aside0 (Below w.heap.size w w'))
    case atStart => exact ⟨(([] : List (S31))), (0), (0), (by first | rfl | (simp; done) | (simp [*]; done)), (by first | rfl | (simp; done) | (simp [*]; done)), H', ⟨Nat.le_refl _⟩, ⟨by first | exact Kd.R_nil _ _ _ _ _ | exact Kd.N_nil _ _ _ _ _ | exact Kd.V_nil _ _ _ _ _ | exact Kd.Q_nil _ _ _ _ _ | exact Kd.S_nil _ _ _ _ _⟩, ⟨by repeat (first | (with_reducible first | exact HB.out | apply below_alloc | apply pw_below_drewN | apply below_drew1) | exact HB.out)⟩⟩
    case round =>
      clear H'
      try clear c1
      try clear c2
      try clear p2
      try clear c6
      obtain ⟨x8_1, x9_1, x10_1, rfl, rfl, HA, HK1, HO_8, HB⟩ := hrel
      cases gk with
      | zero => exact absurd HA.out (by simp [partitalaw15_WireRunning.l0])
      | succ k1 =>
        have H := HA.out
        clear HA
        simp only [partitalaw15_WireRunning.l0] at H
        by_cases c8 : x10_1 < (l0.length : Int)
        · rw [if_pos c8] at H
          have c8b0 : decide (x10_1 < (l0.length : Int)) = true := decide_eq_true c8
          clear c8
          by_cases c9 : 0 ≤ x10_1
          · rw [if_pos c9] at H
            have c9b0 : decide (0 ≤ x10_1) = true := decide_eq_true c9
            clear c9
            replace H := Option.bind_eq_some_iff.mp H
            obtain ⟨t459, A100, H⟩ := H
            replace H : (if t459 = true then ((wire_Vlq.f ((rd_T31 l0 x10_1).f0)).bind fun bt460 => (if x8_1.length < 2513169434916 then (partitalaw15_WireRunning.l0 k1 l0 a1 a2 t453 (x8_1 ++ [(⟨(rd_T31 l0 x10_1).f0, wrap64 (8 + (Int.tmod (wrap64 (a1)) 4)), Int.tmod (wrap64 (a2)) 16, (rd_T31 l0 x10_1).f3, (rd_T31 l0 x10_1).f4, (⟨#[]⟩ : ByteArray)⟩ : S31)]) (wrap64 ((wrap64 (x9_1 + (bt460.1.size : Int))) + 2)) (wrap64 (x10_1 + 1))) else (none))) else (partitalaw15_WireRunning.l0 k1 l0 a1 a2 t453 x8_1 x9_1 (wrap64 (x10_1 + 1)))) = some r := H
            have A10 := Aside0.mk A100
            clear A100
            by_cases c11 : t459 = true
            · subst c11
              have H1 : ((wire_Vlq.f ((rd_T31 l0 x10_1).f0)).bind fun bt460 => (if x8_1.length < 2513169434916 then (partitalaw15_WireRunning.l0 k1 l0 a1 a2 t453 (x8_1 ++ [(⟨(rd_T31 l0 x10_1).f0, wrap64 (8 + (Int.tmod (wrap64 (a1)) 4)), Int.tmod (wrap64 (a2)) 16, (rd_T31 l0 x10_1).f3, (rd_T31 l0 x10_1).f4, (⟨#[]⟩ : ByteArray)⟩ : S31)]) (wrap64 ((wrap64 (x9_1 + (bt460.1.size : Int))) + 2)) (wrap64 (x10_1 + 1))) else (none))) = some r := by rw [if_pos rfl] at H; exact H
              clear H
              have H := H1
              clear H1
              replace H := Option.bind_eq_some_iff.mp H
              obtain ⟨⟨t460, t461⟩, A120, H⟩ := H
              replace H : (if x8_1.length < 2513169434916 then (partitalaw15_WireRunning.l0 k1 l0 a1 a2 t453 (x8_1 ++ [(⟨(rd_T31 l0 x10_1).f0, wrap64 (8 + (Int.tmod (wrap64 (a1)) 4)), Int.tmod (wrap64 (a2)) 16, (rd_T31 l0 x10_1).f3, (rd_T31 l0 x10_1).f4, (⟨#[]⟩ : ByteArray)⟩ : S31)]) (wrap64 ((wrap64 (x9_1 + (t460.size : Int))) + 2)) (wrap64 (x10_1 + 1))) else (none)) = some r := H
              have A12 := Aside0.mk A120
              clear A120
              by_cases c13 : x8_1.length < 2513169434916
              · rw [if_pos c13] at H
                have LMc13 := Aside0.mk c13
                clear c13
                obtain ⟨y462, hy462⟩ : ∃ y_ : List (S31), y_ = (x8_1 ++ [(⟨(rd_T31 l0 x10_1).f0, wrap64 (8 + (Int.tmod (wrap64 (a1)) 4)), Int.tmod (wrap64 (a2)) 16, (rd_T31 l0 x10_1).f3, (rd_T31 l0 x10_1).f4, (⟨#[]⟩ : ByteArray)⟩ : S31)]) := ⟨_, rfl⟩
                replace H : (partitalaw15_WireRunning.l0 k1 l0 a1 a2 t453 y462 (wrap64 ((wrap64 (x9_1 + (t460.size : Int))) + 2)) (wrap64 (x10_1 + 1))) = some r := by first | (rw [hy462]; with_reducible exact H) | (have H2_ := (Option.bind_some _ _).symm.trans H; rw [hy462]; with_reducible exact H2_) | (have H2_ := (Option.bind_some _ _).symm.trans H; with_reducible exact H2_) | with_reducible exact H | (rw [hy462]; exact H) | exact H
                have Ny462 := Aside0.mk hy462
                clear hy462
                have H' := Aside0.mk H
                clear H
                have p457 : 0 ≤ (x10_1 : Int) := of_decide_eq_true (by first | (with_reducible assumption) | assumption)
                have q457 : x10_1 < (l0.length : Int) := of_decide_eq_true (by first | (with_reducible assumption) | assumption)
                obtain ⟨ad457, e457, hx457_0, hx457_1, hx457_2, hx457_3, hx457_4, hx457_5⟩ := at_T31 HR0.out x10_1 p457 q457
                cases e457
                replace hx457_0 := (HB.out.cell (World.block_lt_of_cell? w _ hx457_0)).trans hx457_0
                replace hx457_1 := (HB.out.cell (World.block_lt_of_cell? w _ hx457_1)).trans hx457_1
                replace hx457_2 := (HB.out.cell (World.block_lt_of_cell? w _ hx457_2)).trans hx457_2
                replace hx457_3 := (HB.out.cell (World.block_lt_of_cell? w _ hx457_3)).trans hx457_3
                replace hx457_4 := (HB.out.cell (World.block_lt_of_cell? w _ hx457_4)).trans hx457_4
                replace hx457_5 := (HB.out.cell (World.block_lt_of_cell? w _ hx457_5)).trans hx457_5
                replace p457 := eq_true p457
                replace q457 := eq_true q457
                go_wp2_with fail
                refine (wire_Right.calls k1 _ _ _ _ _ _ true _ A10.out).mono ?_
                rintro e w14 ⟨rfl, hb⟩
                have BK := Aside0.mk ((hb.block wr.heap.size (by simp)).trans (heap_alloc_new wr (.cells #[.int .i64 (rd_T31 l0 x10_1).f0, .int .i64 (wrap64 (8 + Int.tmod (wrap64 a1) 4)), .int .i64 (Int.tmod (wrap64 a2) 16), .int .i64 (rd_T31 l0 x10_1).f3, .int .i64 (rd_T31 l0 x10_1).f4, .string (⟨#[]⟩ : ByteArray)] 31)))
                have HO14 := Aside0.mk (Kd.R_below (Kd.R_alloc (o := .cells #[.int .i64 (rd_T31 l0 x10_1).f0, .int .i64 (wrap64 (8 + Int.tmod (wrap64 a1) 4)), .int .i64 (Int.tmod (wrap64 a2) 16), .int .i64 (rd_T31 l0 x10_1).f3, .int .i64 (rd_T31 l0 x10_1).f4, .string (⟨#[]⟩ : ByteArray)] 31) HO_8.out) hb)
                have HB14 := Aside0.mk (below_step (below_alloc HB.out (.cells #[.int .i64 (rd_T31 l0 x10_1).f0, .int .i64 (wrap64 (8 + Int.tmod (wrap64 a1) 4)), .int .i64 (Int.tmod (wrap64 a2) 16), .int .i64 (rd_T31 l0 x10_1).f3, .int .i64 (rd_T31 l0 x10_1).f4, .string (⟨#[]⟩ : ByteArray)] 31)) hb)
                clear hb HO_8 HB hx457_0 hx457_1 hx457_2 hx457_3 hx457_4 hx457_5
                have hc0 : w14.cell? ⟨wr.heap.size, 0, none⟩ = some (.int .i64 (rd_T31 l0 x10_1).f0) := (blk_cell BK.out 0).trans rfl
                have hc1 : w14.cell? ⟨wr.heap.size, 1, none⟩ = some (.int .i64 (wrap64 (8 + Int.tmod (wrap64 a1) 4))) := (blk_cell BK.out 1).trans rfl
                have hc2 : w14.cell? ⟨wr.heap.size, 2, none⟩ = some (.int .i64 (Int.tmod (wrap64 a2) 16)) := (blk_cell BK.out 2).trans rfl
                have hc3 : w14.cell? ⟨wr.heap.size, 3, none⟩ = some (.int .i64 (rd_T31 l0 x10_1).f3) := (blk_cell BK.out 3).trans rfl
                have hc4 : w14.cell? ⟨wr.heap.size, 4, none⟩ = some (.int .i64 (rd_T31 l0 x10_1).f4) := (blk_cell BK.out 4).trans rfl
                have hc5 : w14.cell? ⟨wr.heap.size, 5, none⟩ = some (.string (⟨#[]⟩ : ByteArray)) := (blk_cell BK.out 5).trans rfl
                go_wp2_with fail
                refine (wire_Vlq.calls _ t460 t461 _ A12.out).mono ?_
                rintro e w15 ⟨rfl, hb⟩
                clear hc0 hc1 hc2 hc3 hc4 hc5
                have BK15 := Aside0.mk ((hb.block wr.heap.size (blk_lt BK.out)).trans BK.out)
                have HO15 := Aside0.mk (Kd.R_below HO14.out hb)
                have HB15 := Aside0.mk (below_step HB14.out hb)
                clear hb BK HO14 HB14
                have hc0 : w15.cell? ⟨wr.heap.size, 0, none⟩ = some (.int .i64 (rd_T31 l0 x10_1).f0) := (blk_cell BK15.out 0).trans rfl
                have hc1 : w15.cell? ⟨wr.heap.size, 1, none⟩ = some (.int .i64 (wrap64 (8 + Int.tmod (wrap64 a1) 4))) := (blk_cell BK15.out 1).trans rfl
                have hc2 : w15.cell? ⟨wr.heap.size, 2, none⟩ = some (.int .i64 (Int.tmod (wrap64 a2) 16)) := (blk_cell BK15.out 2).trans rfl
                have hc3 : w15.cell? ⟨wr.heap.size, 3, none⟩ = some (.int .i64 (rd_T31 l0 x10_1).f3) := (blk_cell BK15.out 3).trans rfl
                have hc4 : w15.cell? ⟨wr.heap.size, 4, none⟩ = some (.int .i64 (rd_T31 l0 x10_1).f4) := (blk_cell BK15.out 4).trans rfl
                have hc5 : w15.cell? ⟨wr.heap.size, 5, none⟩ = some (.string (⟨#[]⟩ : ByteArray)) := (blk_cell BK15.out 5).trans rfl
                go_wp2_with (((with_reducible refine gate_builtin (b := .append) (xs := #[.tmp 49, .tmp 51]) rfl ?_); at_builtin; go_loud (refine Kd.R_append k31 (w0 := w) w.heap.size rfl (.tmp 49) (.tmp 51) 33 31 (.agg #[(.int .i64 0), (.int .i64 0), (.int .i64 0), (.int .i64 0), (.int .i64 0), (.string ⟨#[]⟩)]) 56 rfl Try.underlying33 info31 rfl (by decide) (by omega) u8 x8_1 (⟨(rd_T31 l0 x10_1).f0, wrap64 (8 + (Int.tmod (wrap64 (a1)) 4)), Int.tmod (wrap64 (a2)) 16, (rd_T31 l0 x10_1).f3, (rd_T31 l0 x10_1).f4, (⟨#[]⟩ : ByteArray)⟩ : S31) [.int .i64 (rd_T31 l0 x10_1).f0, .int .i64 (wrap64 (8 + Int.tmod (wrap64 a1) 4)), .int .i64 (Int.tmod (wrap64 a2) 16), .int .i64 (rd_T31 l0 x10_1).f3, .int .i64 (rd_T31 l0 x10_1).f4, .string (⟨#[]⟩ : ByteArray)] (fun _ => True) (fun _ => False) rfl (by first | (go_simp; done) | (go_simp; rfl)) ?aP (fun _ hk => hk.elim) ?aF ?aO ?aB ?aS ?aL ?_); (case aP => exact k31_mkM _ _ _ (⟨(rd_T31 l0 x10_1).f0, wrap64 (8 + (Int.tmod (wrap64 (a1)) 4)), Int.tmod (wrap64 (a2)) 16, (rd_T31 l0 x10_1).f3, (rd_T31 l0 x10_1).f4, (⟨#[]⟩ : ByteArray)⟩ : S31)); (case aF => exact (fun _ _ => trivial)); (case aO => exact HO15.out); (case aB => exact HB15.out); (case aS => exact below_size HB15.out); (case aL => have := LMc13.out; omega); intro v9 w9 ho hb hg hat; rw [← Ny462.out] at ho; have HO9 := Aside0.mk ho; have HB9 := Aside0.mk hb; clear ho hb hg hat))
                go_roundg k1
                case measure => have := HK1.out; omega
                case rel => exact ⟨y462, wrap64 ((wrap64 (x9_1 + (t460.size : Int))) + 2), wrap64 (x10_1 + 1), rfl, rfl, H', ⟨by have := HK1.out; omega⟩, HO9, HB9⟩
              · rw [if_neg c13] at H
                exact absurd H (by simp)
            · replace c11 := Bool.eq_false_iff.mpr c11
              subst c11
              have H1 : (partitalaw15_WireRunning.l0 k1 l0 a1 a2 t453 x8_1 x9_1 (wrap64 (x10_1 + 1))) = some r := by rw [if_neg (show ¬ (false = true) by decide)] at H; exact H
              clear H
              have H := H1
              clear H1
              have H' := Aside0.mk H
              clear H
              have p457 : 0 ≤ (x10_1 : Int) := of_decide_eq_true (by first | (with_reducible assumption) | assumption)
              have q457 : x10_1 < (l0.length : Int) := of_decide_eq_true (by first | (with_reducible assumption) | assumption)
              obtain ⟨ad457, e457, hx457_0, hx457_1, hx457_2, hx457_3, hx457_4, hx457_5⟩ := at_T31 HR0.out x10_1 p457 q457
              cases e457
              replace hx457_0 := (HB.out.cell (World.block_lt_of_cell? w _ hx457_0)).trans hx457_0
              replace hx457_1 := (HB.out.cell (World.block_lt_of_cell? w _ hx457_1)).trans hx457_1
              replace hx457_2 := (HB.out.cell (World.block_lt_of_cell? w _ hx457_2)).trans hx457_2
              replace hx457_3 := (HB.out.cell (World.block_lt_of_cell? w _ hx457_3)).trans hx457_3
              replace hx457_4 := (HB.out.cell (World.block_lt_of_cell? w _ hx457_4)).trans hx457_4
              replace hx457_5 := (HB.out.cell (World.block_lt_of_cell? w _ hx457_5)).trans hx457_5
              replace p457 := eq_true p457
              replace q457 := eq_true q457
              go_wp2_with fail
              refine (wire_Right.calls k1 _ _ _ _ _ _ false _ A10.out).mono ?_
              rintro e w14 ⟨rfl, hb⟩
              have BK := Aside0.mk ((hb.block wr.heap.size (by simp)).trans (heap_alloc_new wr (.cells #[.int .i64 (rd_T31 l0 x10_1).f0, .int .i64 (wrap64 (8 + Int.tmod (wrap64 a1) 4)), .int .i64 (Int.tmod (wrap64 a2) 16), .int .i64 (rd_T31 l0 x10_1).f3, .int .i64 (rd_T31 l0 x10_1).f4, .string (⟨#[]⟩ : ByteArray)] 31)))
              have HO14 := Aside0.mk (Kd.R_below (Kd.R_alloc (o := .cells #[.int .i64 (rd_T31 l0 x10_1).f0, .int .i64 (wrap64 (8 + Int.tmod (wrap64 a1) 4)), .int .i64 (Int.tmod (wrap64 a2) 16), .int .i64 (rd_T31 l0 x10_1).f3, .int .i64 (rd_T31 l0 x10_1).f4, .string (⟨#[]⟩ : ByteArray)] 31) HO_8.out) hb)
              have HB14 := Aside0.mk (below_step (below_alloc HB.out (.cells #[.int .i64 (rd_T31 l0 x10_1).f0, .int .i64 (wrap64 (8 + Int.tmod (wrap64 a1) 4)), .int .i64 (Int.tmod (wrap64 a2) 16), .int .i64 (rd_T31 l0 x10_1).f3, .int .i64 (rd_T31 l0 x10_1).f4, .string (⟨#[]⟩ : ByteArray)] 31)) hb)
              clear hb HO_8 HB hx457_0 hx457_1 hx457_2 hx457_3 hx457_4 hx457_5
              go_wp2_with fail
              go_roundg k1
              case measure => have := HK1.out; omega
              case rel => exact ⟨x8_1, x9_1, wrap64 (x10_1 + 1), rfl, rfl, H', ⟨by have := HK1.out; omega⟩, HO14, HB14⟩
          · rw [if_neg c9] at H
            exact absurd H (by simp)
        · rw [if_neg c8] at H
          have c8b0 : decide (x10_1 < (l0.length : Int)) = false := decide_eq_false c8
          clear c8
          replace H := Option.bind_eq_some_iff.mp H
          obtain ⟨⟨t455, t456⟩, A240, H⟩ := H
          replace H : (if t453 = true then (if t456 = 0 then (if (x8_1.length : Int) = 0 then (if t455.toList = ([] : List UInt8) then (some true) else (some ((t455.size : Int) == (wrap64 (x9_1 + 1))))) else (some ((t455.size : Int) == (wrap64 (x9_1 + 1))))) else (some false)) else (some false)) = some r := H
          have A24 := Aside0.mk A240
          clear A240
          by_cases c25 : t453 = true
          · subst c25
            have H1 : (if t456 = 0 then (if (x8_1.length : Int) = 0 then (if t455.toList = ([] : List UInt8) then (some true) else (some ((t455.size : Int) == (wrap64 (x9_1 + 1))))) else (some ((t455.size : Int) == (wrap64 (x9_1 + 1))))) else (some false)) = some r := by rw [if_pos rfl] at H; exact H
            clear H
            have H := H1
            clear H1
            by_cases c26 : t456 = 0
            · rw [if_pos c26] at H
              have c26b0 : (t456 == 0) = true := beq_iff_eq.mpr c26
              have c26b1 : (t456 != 0) = false := bne_eq_false_iff_eq.mpr c26
              clear c26
              by_cases c27 : (x8_1.length : Int) = 0
              · rw [if_pos c27] at H
                have c27b0 : ((x8_1.length : Int) == 0) = true := beq_iff_eq.mpr c27
                have c27b1 : ((x8_1.length : Int) != 0) = false := bne_eq_false_iff_eq.mpr c27
                clear c27
                by_cases c28 : t455.toList = ([] : List UInt8)
                · rw [if_pos c28] at H
                  have c28b0 : (t455.toList == ([] : List UInt8)) = true := beq_iff_eq.mpr c28
                  have c28b1 : (t455.toList != ([] : List UInt8)) = false := bne_eq_false_iff_eq.mpr c28
                  clear c28
                  obtain rfl := Option.some.inj H
                  obtain ⟨Ao29, co29, eo29⟩ := Kd.R_slice HO_8.out
                  subst eo29
                  go_wp2_with (first | ((with_reducible refine gate_callee (f := 22) rfl ?_); refine goesL_ (some 60) rfl rfl Try.func22 (by kernel_rfl) rfl #[.slice Ao29 x8_1.length co29] rfl (by (try simp only [List.map_toArray, List.map_cons, List.map_nil]); first | done | rfl | (simp only [List.length_drop, List.length_take]; rfl)) ?_; (with_reducible refine (wire_Encode.calls k1 _ _ x8_1 t455 t456 _ ?side1 ?side2 A24.out).mono ?_); (case side1 => repeat (first | exact (Kd.R_reads' HO_8.out).2.2 | (with_reducible refine Kd.C_alloc ?_ _) | (with_reducible refine Kd.C_drewN ?_ _) | (with_reducible refine Kd.C_drew ?_))); (case side2 => exact (Kd.R_reads' HO_8.out).2.1); rintro e w30 ⟨rfl, hb⟩; refine ⟨_, rfl, ?_⟩; have n0_ := Aside0.mk (Kd.R_below (by (with_reducible repeat (first | apply Kd.R_alloc | apply Kd.R_drewN | apply Kd.R_drew)); exact HO_8.out) hb); have n1_ := Aside0.mk (below_step (by repeat (first | (with_reducible first | exact HB.out | apply below_alloc | apply pw_below_drewN | apply below_drew1) | exact HB.out)) hb); clear HO_8; clear HB; have HO_8 := n0_; have HB := n1_; clear n0_ n1_; (try clear hb); (try clear hb2); (try clear hk); (try clear hi)))
                  go_ret
                  exact ⟨by first | rfl | (simp [errW_none, errW_some] <;> rfl) | (simp [*, errW_none, errW_some] <;> rfl), by repeat (first | (with_reducible first | exact HB.out | apply below_alloc | apply pw_below_drewN | apply below_drew1) | exact HB.out)⟩
                · rw [if_neg c28] at H
                  have c28b0 : (t455.toList == ([] : List UInt8)) = false := beq_eq_false_iff_ne.mpr c28
                  have c28b1 : (t455.toList != ([] : List UInt8)) = true := bne_iff_ne.mpr c28
                  obtain rfl := Option.some.inj H
                  obtain ⟨Ao31, co31, eo31⟩ := Kd.R_slice HO_8.out
                  subst eo31
                  go_wp2_with (first | ((with_reducible refine gate_callee (f := 22) rfl ?_); refine goesL_ (some 60) rfl rfl Try.func22 (by kernel_rfl) rfl #[.slice Ao31 x8_1.length co31] rfl (by (try simp only [List.map_toArray, List.map_cons, List.map_nil]); first | done | rfl | (simp only [List.length_drop, List.length_take]; rfl)) ?_; (with_reducible refine (wire_Encode.calls k1 _ _ x8_1 t455 t456 _ ?side1 ?side2 A24.out).mono ?_); (case side1 => repeat (first | exact (Kd.R_reads' HO_8.out).2.2 | (with_reducible refine Kd.C_alloc ?_ _) | (with_reducible refine Kd.C_drewN ?_ _) | (with_reducible refine Kd.C_drew ?_))); (case side2 => exact (Kd.R_reads' HO_8.out).2.1); rintro e w32 ⟨rfl, hb⟩; refine ⟨_, rfl, ?_⟩; have n0_ := Aside0.mk (Kd.R_below (by (with_reducible repeat (first | apply Kd.R_alloc | apply Kd.R_drewN | apply Kd.R_drew)); exact HO_8.out) hb); have n1_ := Aside0.mk (below_step (by repeat (first | (with_reducible first | exact HB.out | apply below_alloc | apply pw_below_drewN | apply below_drew1) | exact HB.out)) hb); clear HO_8; clear HB; have HO_8 := n0_; have HB := n1_; clear n0_ n1_; (try clear hb); (try clear hb2); (try clear hk); (try clear hi)))
                  go_ret
                  exact ⟨by first | rfl | (simp [errW_none, errW_some] <;> rfl) | (simp [*, errW_none, errW_some] <;> rfl), by repeat (first | (with_reducible first | exact HB.out | apply below_alloc | apply pw_below_drewN | apply below_drew1) | exact HB.out)⟩
              · rw [if_neg c27] at H
                have c27b0 : ((x8_1.length : Int) == 0) = false := beq_eq_false_iff_ne.mpr c27
                have c27b1 : ((x8_1.length : Int) != 0) = true := bne_iff_ne.mpr c27
                have c27b2 : ¬ (x8_1 = []) := fun h_ => c27 (by rw [h_]; rfl)
                obtain rfl := Option.some.inj H
                obtain ⟨Ao33, co33, eo33⟩ := Kd.R_slice HO_8.out
                subst eo33
                go_wp2_with (first | ((with_reducible refine gate_callee (f := 22) rfl ?_); refine goesL_ (some 60) rfl rfl Try.func22 (by kernel_rfl) rfl #[.slice Ao33 x8_1.length co33] rfl (by (try simp only [List.map_toArray, List.map_cons, List.map_nil]); first | done | rfl | (simp only [List.length_drop, List.length_take]; rfl)) ?_; (with_reducible refine (wire_Encode.calls k1 _ _ x8_1 t455 t456 _ ?side1 ?side2 A24.out).mono ?_); (case side1 => repeat (first | exact (Kd.R_reads' HO_8.out).2.2 | (with_reducible refine Kd.C_alloc ?_ _) | (with_reducible refine Kd.C_drewN ?_ _) | (with_reducible refine Kd.C_drew ?_))); (case side2 => exact (Kd.R_reads' HO_8.out).2.1); rintro e w34 ⟨rfl, hb⟩; refine ⟨_, rfl, ?_⟩; have n0_ := Aside0.mk (Kd.R_below (by (with_reducible repeat (first | apply Kd.R_alloc | apply Kd.R_drewN | apply Kd.R_drew)); exact HO_8.out) hb); have n1_ := Aside0.mk (below_step (by repeat (first | (with_reducible first | exact HB.out | apply below_alloc | apply pw_below_drewN | apply below_drew1) | exact HB.out)) hb); clear HO_8; clear HB; have HO_8 := n0_; have HB := n1_; clear n0_ n1_; (try clear hb); (try clear hb2); (try clear hk); (try clear hi)))
                go_ret
                exact ⟨by first | rfl | (simp [errW_none, errW_some] <;> rfl) | (simp [*, errW_none, errW_some] <;> rfl), by repeat (first | (with_reducible first | exact HB.out | apply below_alloc | apply pw_below_drewN | apply below_drew1) | exact HB.out)⟩
            · rw [if_neg c26] at H
              have c26b0 : (t456 == 0) = false := beq_eq_false_iff_ne.mpr c26
              have c26b1 : (t456 != 0) = true := bne_iff_ne.mpr c26
              obtain rfl := Option.some.inj H
              obtain ⟨Ao35, co35, eo35⟩ := Kd.R_slice HO_8.out
              subst eo35
              go_wp2_with (first | ((with_reducible refine gate_callee (f := 22) rfl ?_); refine goesL_ (some 60) rfl rfl Try.func22 (by kernel_rfl) rfl #[.slice Ao35 x8_1.length co35] rfl (by (try simp only [List.map_toArray, List.map_cons, List.map_nil]); first | done | rfl | (simp only [List.length_drop, List.length_take]; rfl)) ?_; (with_reducible refine (wire_Encode.calls k1 _ _ x8_1 t455 t456 _ ?side1 ?side2 A24.out).mono ?_); (case side1 => repeat (first | exact (Kd.R_reads' HO_8.out).2.2 | (with_reducible refine Kd.C_alloc ?_ _) | (with_reducible refine Kd.C_drewN ?_ _) | (with_reducible refine Kd.C_drew ?_))); (case side2 => exact (Kd.R_reads' HO_8.out).2.1); rintro e w36 ⟨rfl, hb⟩; refine ⟨_, rfl, ?_⟩; have n0_ := Aside0.mk (Kd.R_below (by (with_reducible repeat (first | apply Kd.R_alloc | apply Kd.R_drewN | apply Kd.R_drew)); exact HO_8.out) hb); have n1_ := Aside0.mk (below_step (by repeat (first | (with_reducible first | exact HB.out | apply below_alloc | apply pw_below_drewN | apply below_drew1) | exact HB.out)) hb); clear HO_8; clear HB; have HO_8 := n0_; have HB := n1_; clear n0_ n1_; (try clear hb); (try clear hb2); (try clear hk); (try clear hi)))
              go_ret
              exact ⟨by first | rfl | (simp [errW_none, errW_some] <;> rfl) | (simp [*, errW_none, errW_some] <;> rfl), by repeat (first | (with_reducible first | exact HB.out | apply below_alloc | apply pw_below_drewN | apply below_drew1) | exact HB.out)⟩
          · replace c25 := Bool.eq_false_iff.mpr c25
            subst c25
            have H1 : (some false) = some r := by rw [if_neg (show ¬ (false = true) by decide)] at H; exact H
            clear H
            have H := H1
            clear H1
            obtain rfl := Option.some.inj H
            obtain ⟨Ao37, co37, eo37⟩ := Kd.R_slice HO_8.out
            subst eo37
            go_wp2_with (first | ((with_reducible refine gate_callee (f := 22) rfl ?_); refine goesL_ (some 60) rfl rfl Try.func22 (by kernel_rfl) rfl #[.slice Ao37 x8_1.length co37] rfl (by (try simp only [List.map_toArray, List.map_cons, List.map_nil]); first | done | rfl | (simp only [List.length_drop, List.length_take]; rfl)) ?_; (with_reducible refine (wire_Encode.calls k1 _ _ x8_1 t455 t456 _ ?side1 ?side2 A24.out).mono ?_); (case side1 => repeat (first | exact (Kd.R_reads' HO_8.out).2.2 | (with_reducible refine Kd.C_alloc ?_ _) | (with_reducible refine Kd.C_drewN ?_ _) | (with_reducible refine Kd.C_drew ?_))); (case side2 => exact (Kd.R_reads' HO_8.out).2.1); rintro e w38 ⟨rfl, hb⟩; refine ⟨_, rfl, ?_⟩; have n0_ := Aside0.mk (Kd.R_below (by (with_reducible repeat (first | apply Kd.R_alloc | apply Kd.R_drewN | apply Kd.R_drew)); exact HO_8.out) hb); have n1_ := Aside0.mk (below_step (by repeat (first | (with_reducible first | exact HB.out | apply below_alloc | apply pw_below_drewN | apply below_drew1) | exact HB.out)) hb); clear HO_8; clear HB; have HO_8 := n0_; have HB := n1_; clear n0_ n1_; (try clear hb); (try clear hb2); (try clear hk); (try clear hi)))
            go_ret
            exact ⟨by first | rfl | (simp [errW_none, errW_some] <;> rfl) | (simp [*, errW_none, errW_some] <;> rfl), by repeat (first | (with_reducible first | exact HB.out | apply below_alloc | apply pw_below_drewN | apply below_drew1) | exact HB.out)⟩
  · replace c6 := Bool.eq_false_iff.mpr c6
    subst c6
    have H1 : (some t453) = some r := by rw [if_neg (show ¬ (false = true) by decide)] at H; exact H
    clear H
    have H := H1
    clear H1
    obtain rfl := Option.some.inj H
    go_enter Try.func13, Try.ntmps13
    go_wp2_with (first | ((with_reducible refine gate_callee (f := 14) rfl ?_); refine goesL_ (some 16) rfl rfl Try.func14 (by kernel_rfl) rfl #[] rfl (by (try simp only [List.map_toArray, List.map_cons, List.map_nil]); first | done | rfl | (simp only [List.length_drop, List.length_take]; rfl)) ?_; (with_reducible refine (partitalaw15_awake.calls k  t453 _ A4.out).mono ?_); rintro e w39 ⟨rfl, hb⟩; refine ⟨_, rfl, ?_⟩; have n0_ := Aside0.mk (below_step (by repeat (first | (with_reducible first | exact HB.out | apply below_alloc | apply pw_below_drewN | apply below_drew1) | exact HB.out)) hb); clear HB; have HB := n0_; clear n0_; (try clear hb); (try clear hb2); (try clear hk); (try clear hi)) | ((with_reducible refine gate_callee (f := 21) rfl ?_); refine goesL_ (some 18) rfl rfl Try.func21 (by kernel_rfl) rfl #[.slice A0 l0.length c0] rfl (by (try simp only [List.map_toArray, List.map_cons, List.map_nil]); first | done | rfl | (simp only [List.length_drop, List.length_take]; rfl)) ?_; (with_reducible refine (partitaref15_Few.calls k _ _ l0 false _ ?side1 ?side2 A5.out).mono ?_); (case side1 => repeat (first | exact (Kd.C_below HR0.out HB.out) | (with_reducible refine Kd.C_alloc ?_ _) | (with_reducible refine Kd.C_drewN ?_ _) | (with_reducible refine Kd.C_drew ?_))); (case side2 => exact HC0.out); rintro e w' ⟨rfl, ⟨nd, rfl⟩⟩; refine ⟨_, rfl, ?_⟩))
    go_ret
    exact ⟨by first | rfl | (simp [errW_none, errW_some] <;> rfl) | (simp [*, errW_none, errW_some] <;> rfl), by repeat (first | (with_reducible first | exact HB.out | apply below_alloc | apply pw_below_drewN | apply below_drew1) | exact HB.out)⟩

end Go.Proofs.Ytmeefdaanjaoaaa.M
