/- Functions and contracts printed by a program of this session (wip/tools), and texts by hand: Print, Parse, and the plain answers (part 2). -/
import Derived.Lib.SlBytesConst
import Derived.Test.YtdmnknhlibaaoaaCW
import Derived.Test.YtdmnknhlibaaoaaC1
namespace Go.Proofs.Ytdmnknhlibaaoaa.M
open Go.RowKit Go.Proofs.YtdmnknhlibaaoaaW.PrintWords Go.Proofs.YtdmnknhlibaaoaaW.PrintLast Go.Proofs.YtdmnknhlibaaoaaW.PrintMore
attribute [local go_sem] max2_int min2_int max_two min_two max_three min_three max_four min_four
set_option linter.unusedVariables false
set_option linter.unusedSimpArgs false
def wire_Encode.l0 : Nat → List Int → Int → List (S28) → Int → Int → Option (ByteArray × Int)
  | 0, _, _, _, _, _ => none
  | k + 1, x4, x5, x9, x10, x11 => if x11 < x10 then (if 0 ≤ x11 then (if x11 < (x9.length : Int) then ((wire_Right.f k ((rd_T28 x9 x11).f0) ((rd_T28 x9 x11).f1) ((rd_T28 x9 x11).f2) ((rd_T28 x9 x11).f3) ((rd_T28 x9 x11).f4) ((rd_T28 x9 x11).f5)).bind fun t103 => (if t103 = true then ((wire_number.f ((rd_T28 x9 x11).f0)).bind fun t104 => (if x4.length + t104.length < 140737488355328 then ((some (x4 ++ t104 : List Int)).bind fun y107 => (if ((rd_T28 x9 x11).f1) = 16 then (if y107.length < 140737488355328 then ((some (y107 ++ [255] : List Int)).bind fun y110 => (if y110.length < 140737488355328 then ((some (y110 ++ [((rd_T28 x9 x11).f3) % 256] : List Int)).bind fun y113 => ((wire_number.f (((rd_T28 x9 x11).f5).size : Int)).bind fun t116 => (if y113.length + t116.length < 140737488355328 then ((some (y113 ++ t116 : List Int)).bind fun y119 => (if y119.length + ((rd_T28 x9 x11).f5).size < 140737488355328 then (wire_Encode.l0 k (y119 ++ bytesOf ((rd_T28 x9 x11).f5)) 0 x9 x10 (wrap64 (x11 + 1))) else (none))) else (none)))) else (none))) else (none)) else (if ((rd_T28 x9 x11).f1) = 15 then (if y107.length < 140737488355328 then ((some (y107 ++ [((rd_T28 x9 x11).f3) % 256] : List Int)).bind fun y125 => ((wire_number.f (((rd_T28 x9 x11).f5).size : Int)).bind fun t128 => (if y125.length + t128.length < 140737488355328 then ((some (y125 ++ t128 : List Int)).bind fun y131 => (if y131.length + ((rd_T28 x9 x11).f5).size < 140737488355328 then (wire_Encode.l0 k (y131 ++ bytesOf ((rd_T28 x9 x11).f5)) 0 x9 x10 (wrap64 (x11 + 1))) else (none))) else (none)))) else (none)) else (if (wrap64 ((wrap64 (16 * ((rd_T28 x9 x11).f1))) + ((rd_T28 x9 x11).f2))) = x5 then (if y107.length < 140737488355328 then ((some (y107 ++ [((rd_T28 x9 x11).f3) % 256] : List Int)).bind fun y137 => ((wire_one.f ((rd_T28 x9 x11).f1)).bind fun t140 => (if t140 = true then (wire_Encode.l0 k y137 (wrap64 ((wrap64 (16 * ((rd_T28 x9 x11).f1))) + ((rd_T28 x9 x11).f2))) x9 x10 (wrap64 (x11 + 1))) else (if y137.length < 140737488355328 then (wire_Encode.l0 k (y137 ++ [((rd_T28 x9 x11).f4) % 256]) (wrap64 ((wrap64 (16 * ((rd_T28 x9 x11).f1))) + ((rd_T28 x9 x11).f2))) x9 x10 (wrap64 (x11 + 1))) else (none))))) else (none)) else (if y107.length < 140737488355328 then ((some (y107 ++ [(wrap64 ((wrap64 (16 * ((rd_T28 x9 x11).f1))) + ((rd_T28 x9 x11).f2))) % 256] : List Int)).bind fun y144 => (if y144.length < 140737488355328 then ((some (y144 ++ [((rd_T28 x9 x11).f3) % 256] : List Int)).bind fun y147 => ((wire_one.f ((rd_T28 x9 x11).f1)).bind fun t150 => (if t150 = true then (wire_Encode.l0 k y147 (wrap64 ((wrap64 (16 * ((rd_T28 x9 x11).f1))) + ((rd_T28 x9 x11).f2))) x9 x10 (wrap64 (x11 + 1))) else (if y147.length < 140737488355328 then (wire_Encode.l0 k (y147 ++ [((rd_T28 x9 x11).f4) % 256]) (wrap64 ((wrap64 (16 * ((rd_T28 x9 x11).f1))) + ((rd_T28 x9 x11).f2))) x9 x10 (wrap64 (x11 + 1))) else (none))))) else (none))) else (none)))))) else (none))) else (some ((⟨#[]⟩ : ByteArray), 151)))) else (none)) else (none)) else (some (strOfNums x4, 0))
def wire_Encode.f (k : Nat) (l0 : List (S28)) : Option (ByteArray × Int) := wire_Encode.l0 k ([] : List Int) 0 l0 (l0.length : Int) 0
theorem wire_Encode.mono_l : ∀ k, (∀ y0 y1 y2 y3 y4, LeO (wire_Encode.l0 k y0 y1 y2 y3 y4) (wire_Encode.l0 (k + 1) y0 y1 y2 y3 y4))
  | 0 => fun _ _ _ _ _ r h => by simp [wire_Encode.l0] at h
  | k + 1 => by
    have ih0 := wire_Encode.mono_l k
    · intro y0 y1 y2 y3 y4
      unfold wire_Encode.l0
      repeat' first
      | (with_reducible exact ih0 _ _ _ _ _)
      | (with_reducible exact wire_Right.mono _ _ _ _ _ _ _)
      | (with_reducible exact LeO.refl _)
      | (with_reducible exact LeO.none _)
      | (with_reducible refine LeO.ite ?_ ?_)
      | (with_reducible refine LeO.bind ?_ (fun _ => ?_))
      | exact ih0 _ _ _ _ _
      | exact wire_Right.mono _ _ _ _ _ _ _
      | exact LeO.none _
      | refine LeO.ite ?_ ?_
      | refine LeO.bind ?_ (fun _ => ?_)
theorem wire_Encode.mono : ∀ a0 k, LeO (wire_Encode.f k a0) (wire_Encode.f (k + 1) a0) := by
  intro a0 k
  have ih0 := wire_Encode.mono_l k
  unfold wire_Encode.f
  repeat' first
      | (with_reducible exact ih0 _ _ _ _ _)
      | (with_reducible exact wire_Right.mono _ _ _ _ _ _ _)
      | (with_reducible exact LeO.refl _)
      | (with_reducible exact LeO.none _)
      | (with_reducible refine LeO.ite ?_ ?_)
      | (with_reducible refine LeO.bind ?_ (fun _ => ?_))
      | exact ih0 _ _ _ _ _
      | exact wire_Right.mono _ _ _ _ _ _ _
      | exact LeO.none _
      | refine LeO.ite ?_ ?_
      | refine LeO.bind ?_ (fun _ => ?_)
set_option maxHeartbeats 8000000 in
set_option maxRecDepth 100000 in
theorem wire_Encode.calls (k : Nat) (A0 : Option Addr) (c0 : Nat) (l0 : List (S28)) (r1 : ByteArray) (r2 : Int) (w : World) (hr0 : Kd.C k28 w A0 l0.length l0) (hc0 : l0.length ≤ c0) (h : wire_Encode.f k l0 = some (r1, r2)) :
    Calls Try.prog 22 #[.slice A0 l0.length c0] w fun e w' => e = .returned (.tuple #[.string r1, .int .i64 r2]) ∧ Below w.heap.size w w' := by
  have hu28 := Try.underlying28
  have HR0 := Aside0.mk hr0
  have HC0 := Aside0.mk hc0
  clear hr0 hc0
  have HB := Aside0.mk (Below.refl w.heap.size w)
  have H := h
  unfold wire_Encode.f at H
  clear h
  have H' := Aside0.mk H
  clear H
  go_enter Try.func22, Try.ntmps22
  go_wp2
  go_loopg [4, 5, 11] k (fun kq v4 v5 v11 w' => ∃ (x4_1 : List Int) (x5_1 : Int) (x11_1 : Int), v5 = .int .i64 x5_1 ∧ v11 = .int .i64 x11_1 ∧ Aside0 (wire_Encode.l0 kq x4_1 x5_1 l0 (l0.length : Int) x11_1 = some (r1, r2)) ∧ Aside0 (kq ≤ k) ∧ Aside0 (Kd.R (Kd.int .u8) 5 w' w.heap.size (fun _ => True) v4 x4_1) ∧ Aside0 (Below w.heap.size w w'))
  case atStart => exact ⟨(([] : List Int)), (0), (0), qq8, qq8, H', ⟨Nat.le_refl _⟩, ⟨qq1u⟩, ⟨qB HB.out⟩⟩
  case round =>
    clear H'
    obtain ⟨x4_1, x5_1, x11_1, rfl, rfl, HA, HK1, HO_4, HB⟩ := hrel
    cases gk with
    | zero => exact absurd HA.out (by simp [wire_Encode.l0])
    | succ k1 =>
      have H := HA.out
      clear HA
      simp only [wire_Encode.l0] at H
      by_cases c2 : x11_1 < (l0.length : Int)
      rotate_left
      · rw [if_neg c2] at H
        have c2b0 : decide (x11_1 < (l0.length : Int)) = false := decide_eq_false c2
        clear c2
        simp only [Option.some.injEq, Prod.mk.injEq] at H
        obtain ⟨rfl, rfl⟩ := H
        have hcv111 := own_string (P := Try.prog) Try.underlying39 Try.underlying5 Try.underlying9 (Kd.own_of_R HO_4.out)
        go_wp2
        go_ret2
        exact ⟨qq5, qB HB.out⟩
      rw [if_pos c2] at H
      have c2b0 : decide (x11_1 < (l0.length : Int)) = true := decide_eq_true c2
      clear c2
      by_cases c3 : 0 ≤ x11_1
      rotate_left
      · rw [if_neg c3] at H
        exact absurd H (by simp)
      rw [if_pos c3] at H
      have c3b0 : decide (0 ≤ x11_1) = true := decide_eq_true c3
      clear c3
      by_cases c4 : x11_1 < (l0.length : Int)
      rotate_left
      · rw [if_neg c4] at H
        exact absurd H (by simp)
      rw [if_pos c4] at H
      have c4b0 : decide (x11_1 < (l0.length : Int)) = true := decide_eq_true c4
      clear c4
      replace H := Option.bind_eq_some_iff.mp H
      obtain ⟨t103, A50, H⟩ := H
      try dsimp -simprocs only at H
      have A5 := Aside0.mk A50
      clear A50
      by_cases c6 : t103 = true
      rotate_left
      · replace c6 := Bool.eq_false_iff.mpr c6
        subst c6
        have H1 : (some ((⟨#[]⟩ : ByteArray), 151)) = some (r1, r2) := by rw [if_neg (show ¬ (false = true) by decide)] at H; exact H
        clear H
        have H := H1
        clear H1
        simp only [Option.some.injEq, Prod.mk.injEq] at H
        obtain ⟨rfl, rfl⟩ := H
        have p101 : 0 ≤ (x11_1 : Int) := of_decide_eq_true qq4
        have q101 : x11_1 < (l0.length : Int) := of_decide_eq_true qq4
        obtain ⟨ad101, e101, hx101_0, hx101_1, hx101_2, hx101_3, hx101_4, hx101_5⟩ := at_T28 HR0.out x11_1 p101 q101
        cases e101
        replace hx101_0 := (HB.out.cell (World.block_lt_of_cell? w _ hx101_0)).trans hx101_0
        replace hx101_1 := (HB.out.cell (World.block_lt_of_cell? w _ hx101_1)).trans hx101_1
        replace hx101_2 := (HB.out.cell (World.block_lt_of_cell? w _ hx101_2)).trans hx101_2
        replace hx101_3 := (HB.out.cell (World.block_lt_of_cell? w _ hx101_3)).trans hx101_3
        replace hx101_4 := (HB.out.cell (World.block_lt_of_cell? w _ hx101_4)).trans hx101_4
        replace hx101_5 := (HB.out.cell (World.block_lt_of_cell? w _ hx101_5)).trans hx101_5
        replace p101 := eq_true p101
        replace q101 := eq_true q101
        go_wp2_with (first | ((with_reducible refine gate_dst (N := 7) rfl ?_); refine box_event ?hg (N := 7) ?hd (cs := #[.int .i64 0, .int .i64 0, .int .i64 0, .int .i64 0, .int .i64 0, .string (⟨#[]⟩ : ByteArray)]) (t := 28) ?hr ?_; (case hd => rfl); (case hg => rfl); (case hr => exact qq6); intro gb102 hg w108 hbox hb; replace HO_4 := Aside0.mk (Kd.R_below (qR HO_4.out) hb); have BK102 := Aside0.mk (hbox); have GW102 := Aside0.mk ((qq9 : w.heap.size ≤ gb102)); have GE102 := Aside0.mk ((qq9 : w.heap.size ≤ gb102)); replace HB := Aside0.mk (below_step (qB HB.out) hb); clear hb hbox hg; obtain ⟨hcz109_0, hcz109_1, hcz109_2, hcz109_3, hcz109_4, hcz109_5, hfz109_0, hfz109_1, hfz109_2, hfz109_3, hfz109_4, hfz109_5⟩ := blk6 BK102.out) | ((with_reducible refine gate_callee (f := 35) rfl ?_); refine goesL_ (some 16) rfl rfl Try.func35 (by kernel_rfl) rfl #[.agg #[.int .i64 ((rd_T28 l0 x11_1).f0), .int .i64 ((rd_T28 l0 x11_1).f1), .int .i64 ((rd_T28 l0 x11_1).f2), .int .i64 ((rd_T28 l0 x11_1).f3), .int .i64 ((rd_T28 l0 x11_1).f4), .string ((rd_T28 l0 x11_1).f5)]] rfl qq0 ?_; (with_reducible refine (wire_Right.calls k1 ((rd_T28 l0 x11_1).f0) ((rd_T28 l0 x11_1).f1) ((rd_T28 l0 x11_1).f2) ((rd_T28 l0 x11_1).f3) ((rd_T28 l0 x11_1).f4) ((rd_T28 l0 x11_1).f5) false _ A5.out).mono ?_); rintro e w110 ⟨rfl, hb⟩; refine ⟨_, rfl, ?_⟩; replace HO_4 := Aside0.mk (Kd.R_below qq7 hb); replace BK102 := Aside0.mk (blk_below (g := gb102) (o := .cells #[.int .i64 ((rd_T28 l0 x11_1).f0), .int .i64 ((rd_T28 l0 x11_1).f1), .int .i64 ((rd_T28 l0 x11_1).f2), .int .i64 ((rd_T28 l0 x11_1).f3), .int .i64 ((rd_T28 l0 x11_1).f4), .string ((rd_T28 l0 x11_1).f5)] 28 (0, 0)) (by refine bq ?_; refine blk_put (cs := #[.int .i64 ((rd_T28 l0 x11_1).f0), .int .i64 ((rd_T28 l0 x11_1).f1), .int .i64 ((rd_T28 l0 x11_1).f2), .int .i64 ((rd_T28 l0 x11_1).f3), .int .i64 ((rd_T28 l0 x11_1).f4), .string (⟨#[]⟩ : ByteArray)]) ?_ 5 _ rfl; refine bq ?_; refine blk_put (cs := #[.int .i64 ((rd_T28 l0 x11_1).f0), .int .i64 ((rd_T28 l0 x11_1).f1), .int .i64 ((rd_T28 l0 x11_1).f2), .int .i64 ((rd_T28 l0 x11_1).f3), .int .i64 0, .string (⟨#[]⟩ : ByteArray)]) ?_ 4 _ rfl; refine bq ?_; refine blk_put (cs := #[.int .i64 ((rd_T28 l0 x11_1).f0), .int .i64 ((rd_T28 l0 x11_1).f1), .int .i64 ((rd_T28 l0 x11_1).f2), .int .i64 0, .int .i64 0, .string (⟨#[]⟩ : ByteArray)]) ?_ 3 _ rfl; refine bq ?_; refine blk_put (cs := #[.int .i64 ((rd_T28 l0 x11_1).f0), .int .i64 ((rd_T28 l0 x11_1).f1), .int .i64 0, .int .i64 0, .int .i64 0, .string (⟨#[]⟩ : ByteArray)]) ?_ 2 _ rfl; refine bq ?_; refine blk_put (cs := #[.int .i64 ((rd_T28 l0 x11_1).f0), .int .i64 0, .int .i64 0, .int .i64 0, .int .i64 0, .string (⟨#[]⟩ : ByteArray)]) ?_ 1 _ rfl; refine bq ?_; refine blk_put (cs := #[.int .i64 0, .int .i64 0, .int .i64 0, .int .i64 0, .int .i64 0, .string (⟨#[]⟩ : ByteArray)]) ?_ 0 _ rfl; exact bq BK102.out) hb); replace HB := Aside0.mk (below_step (qS1 GE102 HB.out) hb); (try clear hb); (try clear hb2); (try clear hk); (try clear hi)))
        go_ret2
        exact ⟨qq5, qS1 GE102 HB.out⟩
      subst c6
      have H1 : ((wire_number.f ((rd_T28 l0 x11_1).f0)).bind fun t104 => (if x4_1.length + t104.length < 140737488355328 then ((some (x4_1 ++ t104 : List Int)).bind fun y107 => (if ((rd_T28 l0 x11_1).f1) = 16 then (if y107.length < 140737488355328 then ((some (y107 ++ [255] : List Int)).bind fun y110 => (if y110.length < 140737488355328 then ((some (y110 ++ [((rd_T28 l0 x11_1).f3) % 256] : List Int)).bind fun y113 => ((wire_number.f (((rd_T28 l0 x11_1).f5).size : Int)).bind fun t116 => (if y113.length + t116.length < 140737488355328 then ((some (y113 ++ t116 : List Int)).bind fun y119 => (if y119.length + ((rd_T28 l0 x11_1).f5).size < 140737488355328 then (wire_Encode.l0 k1 (y119 ++ bytesOf ((rd_T28 l0 x11_1).f5)) 0 l0 (l0.length : Int) (wrap64 (x11_1 + 1))) else (none))) else (none)))) else (none))) else (none)) else (if ((rd_T28 l0 x11_1).f1) = 15 then (if y107.length < 140737488355328 then ((some (y107 ++ [((rd_T28 l0 x11_1).f3) % 256] : List Int)).bind fun y125 => ((wire_number.f (((rd_T28 l0 x11_1).f5).size : Int)).bind fun t128 => (if y125.length + t128.length < 140737488355328 then ((some (y125 ++ t128 : List Int)).bind fun y131 => (if y131.length + ((rd_T28 l0 x11_1).f5).size < 140737488355328 then (wire_Encode.l0 k1 (y131 ++ bytesOf ((rd_T28 l0 x11_1).f5)) 0 l0 (l0.length : Int) (wrap64 (x11_1 + 1))) else (none))) else (none)))) else (none)) else (if (wrap64 ((wrap64 (16 * ((rd_T28 l0 x11_1).f1))) + ((rd_T28 l0 x11_1).f2))) = x5_1 then (if y107.length < 140737488355328 then ((some (y107 ++ [((rd_T28 l0 x11_1).f3) % 256] : List Int)).bind fun y137 => ((wire_one.f ((rd_T28 l0 x11_1).f1)).bind fun t140 => (if t140 = true then (wire_Encode.l0 k1 y137 (wrap64 ((wrap64 (16 * ((rd_T28 l0 x11_1).f1))) + ((rd_T28 l0 x11_1).f2))) l0 (l0.length : Int) (wrap64 (x11_1 + 1))) else (if y137.length < 140737488355328 then (wire_Encode.l0 k1 (y137 ++ [((rd_T28 l0 x11_1).f4) % 256]) (wrap64 ((wrap64 (16 * ((rd_T28 l0 x11_1).f1))) + ((rd_T28 l0 x11_1).f2))) l0 (l0.length : Int) (wrap64 (x11_1 + 1))) else (none))))) else (none)) else (if y107.length < 140737488355328 then ((some (y107 ++ [(wrap64 ((wrap64 (16 * ((rd_T28 l0 x11_1).f1))) + ((rd_T28 l0 x11_1).f2))) % 256] : List Int)).bind fun y144 => (if y144.length < 140737488355328 then ((some (y144 ++ [((rd_T28 l0 x11_1).f3) % 256] : List Int)).bind fun y147 => ((wire_one.f ((rd_T28 l0 x11_1).f1)).bind fun t150 => (if t150 = true then (wire_Encode.l0 k1 y147 (wrap64 ((wrap64 (16 * ((rd_T28 l0 x11_1).f1))) + ((rd_T28 l0 x11_1).f2))) l0 (l0.length : Int) (wrap64 (x11_1 + 1))) else (if y147.length < 140737488355328 then (wire_Encode.l0 k1 (y147 ++ [((rd_T28 l0 x11_1).f4) % 256]) (wrap64 ((wrap64 (16 * ((rd_T28 l0 x11_1).f1))) + ((rd_T28 l0 x11_1).f2))) l0 (l0.length : Int) (wrap64 (x11_1 + 1))) else (none))))) else (none))) else (none)))))) else (none))) = some (r1, r2) := by rw [if_pos rfl] at H; exact H
      clear H
      have H := H1
      clear H1
      replace H := Option.bind_eq_some_iff.mp H
      obtain ⟨t104, A70, H⟩ := H
      try dsimp -simprocs only at H
      have A7 := Aside0.mk A70
      clear A70
      by_cases c8 : x4_1.length + t104.length < 140737488355328
      rotate_left
      · rw [if_neg c8] at H
        exact absurd H (by simp)
      rw [if_pos c8] at H
      have LMc8 := Aside0.mk c8
      clear c8
      obtain ⟨y107, hy107⟩ : ∃ y_ : List Int, y_ = (x4_1 ++ t104) := ⟨_, rfl⟩
      replace H : (if ((rd_T28 l0 x11_1).f1) = 16 then (if y107.length < 140737488355328 then ((some (y107 ++ [255] : List Int)).bind fun y110 => (if y110.length < 140737488355328 then ((some (y110 ++ [((rd_T28 l0 x11_1).f3) % 256] : List Int)).bind fun y113 => ((wire_number.f (((rd_T28 l0 x11_1).f5).size : Int)).bind fun t116 => (if y113.length + t116.length < 140737488355328 then ((some (y113 ++ t116 : List Int)).bind fun y119 => (if y119.length + ((rd_T28 l0 x11_1).f5).size < 140737488355328 then (wire_Encode.l0 k1 (y119 ++ bytesOf ((rd_T28 l0 x11_1).f5)) 0 l0 (l0.length : Int) (wrap64 (x11_1 + 1))) else (none))) else (none)))) else (none))) else (none)) else (if ((rd_T28 l0 x11_1).f1) = 15 then (if y107.length < 140737488355328 then ((some (y107 ++ [((rd_T28 l0 x11_1).f3) % 256] : List Int)).bind fun y125 => ((wire_number.f (((rd_T28 l0 x11_1).f5).size : Int)).bind fun t128 => (if y125.length + t128.length < 140737488355328 then ((some (y125 ++ t128 : List Int)).bind fun y131 => (if y131.length + ((rd_T28 l0 x11_1).f5).size < 140737488355328 then (wire_Encode.l0 k1 (y131 ++ bytesOf ((rd_T28 l0 x11_1).f5)) 0 l0 (l0.length : Int) (wrap64 (x11_1 + 1))) else (none))) else (none)))) else (none)) else (if (wrap64 ((wrap64 (16 * ((rd_T28 l0 x11_1).f1))) + ((rd_T28 l0 x11_1).f2))) = x5_1 then (if y107.length < 140737488355328 then ((some (y107 ++ [((rd_T28 l0 x11_1).f3) % 256] : List Int)).bind fun y137 => ((wire_one.f ((rd_T28 l0 x11_1).f1)).bind fun t140 => (if t140 = true then (wire_Encode.l0 k1 y137 (wrap64 ((wrap64 (16 * ((rd_T28 l0 x11_1).f1))) + ((rd_T28 l0 x11_1).f2))) l0 (l0.length : Int) (wrap64 (x11_1 + 1))) else (if y137.length < 140737488355328 then (wire_Encode.l0 k1 (y137 ++ [((rd_T28 l0 x11_1).f4) % 256]) (wrap64 ((wrap64 (16 * ((rd_T28 l0 x11_1).f1))) + ((rd_T28 l0 x11_1).f2))) l0 (l0.length : Int) (wrap64 (x11_1 + 1))) else (none))))) else (none)) else (if y107.length < 140737488355328 then ((some (y107 ++ [(wrap64 ((wrap64 (16 * ((rd_T28 l0 x11_1).f1))) + ((rd_T28 l0 x11_1).f2))) % 256] : List Int)).bind fun y144 => (if y144.length < 140737488355328 then ((some (y144 ++ [((rd_T28 l0 x11_1).f3) % 256] : List Int)).bind fun y147 => ((wire_one.f ((rd_T28 l0 x11_1).f1)).bind fun t150 => (if t150 = true then (wire_Encode.l0 k1 y147 (wrap64 ((wrap64 (16 * ((rd_T28 l0 x11_1).f1))) + ((rd_T28 l0 x11_1).f2))) l0 (l0.length : Int) (wrap64 (x11_1 + 1))) else (if y147.length < 140737488355328 then (wire_Encode.l0 k1 (y147 ++ [((rd_T28 l0 x11_1).f4) % 256]) (wrap64 ((wrap64 (16 * ((rd_T28 l0 x11_1).f1))) + ((rd_T28 l0 x11_1).f2))) l0 (l0.length : Int) (wrap64 (x11_1 + 1))) else (none))))) else (none))) else (none))))) = some (r1, r2) := by first | (rw [hy107]; with_reducible exact H) | (have H2_ := (Option.bind_some _ _).symm.trans H; rw [hy107]; with_reducible exact H2_) | (have H2_ := (Option.bind_some _ _).symm.trans H; with_reducible exact H2_) | with_reducible exact H | (rw [hy107]; exact H) | exact H
      have Ny107 := Aside0.mk hy107
      clear hy107
      by_cases c9 : ((rd_T28 l0 x11_1).f1) = 16
      · rw [if_pos c9] at H
        have c9b0 : (((rd_T28 l0 x11_1).f1) == 16) = true := beq_iff_eq.mpr c9
        have c9b1 : (((rd_T28 l0 x11_1).f1) != 16) = false := bne_eq_false_iff_eq.mpr c9
        clear c9
        by_cases c10 : y107.length < 140737488355328
        rotate_left
        · rw [if_neg c10] at H
          exact absurd H (by simp)
        rw [if_pos c10] at H
        have LMc10 := Aside0.mk c10
        clear c10
        obtain ⟨y110, hy110⟩ : ∃ y_ : List Int, y_ = (y107 ++ [255]) := ⟨_, rfl⟩
        replace H : (if y110.length < 140737488355328 then ((some (y110 ++ [((rd_T28 l0 x11_1).f3) % 256] : List Int)).bind fun y113 => ((wire_number.f (((rd_T28 l0 x11_1).f5).size : Int)).bind fun t116 => (if y113.length + t116.length < 140737488355328 then ((some (y113 ++ t116 : List Int)).bind fun y119 => (if y119.length + ((rd_T28 l0 x11_1).f5).size < 140737488355328 then (wire_Encode.l0 k1 (y119 ++ bytesOf ((rd_T28 l0 x11_1).f5)) 0 l0 (l0.length : Int) (wrap64 (x11_1 + 1))) else (none))) else (none)))) else (none)) = some (r1, r2) := by first | (rw [hy110]; with_reducible exact H) | (have H2_ := (Option.bind_some _ _).symm.trans H; rw [hy110]; with_reducible exact H2_) | (have H2_ := (Option.bind_some _ _).symm.trans H; with_reducible exact H2_) | with_reducible exact H | (rw [hy110]; exact H) | exact H
        have Ny110 := Aside0.mk hy110
        clear hy110
        by_cases c11 : y110.length < 140737488355328
        rotate_left
        · rw [if_neg c11] at H
          exact absurd H (by simp)
        rw [if_pos c11] at H
        have LMc11 := Aside0.mk c11
        clear c11
        obtain ⟨y113, hy113⟩ : ∃ y_ : List Int, y_ = (y110 ++ [((rd_T28 l0 x11_1).f3) % 256]) := ⟨_, rfl⟩
        replace H : ((wire_number.f (((rd_T28 l0 x11_1).f5).size : Int)).bind fun t116 => (if y113.length + t116.length < 140737488355328 then ((some (y113 ++ t116 : List Int)).bind fun y119 => (if y119.length + ((rd_T28 l0 x11_1).f5).size < 140737488355328 then (wire_Encode.l0 k1 (y119 ++ bytesOf ((rd_T28 l0 x11_1).f5)) 0 l0 (l0.length : Int) (wrap64 (x11_1 + 1))) else (none))) else (none))) = some (r1, r2) := by first | (rw [hy113]; with_reducible exact H) | (have H2_ := (Option.bind_some _ _).symm.trans H; rw [hy113]; with_reducible exact H2_) | (have H2_ := (Option.bind_some _ _).symm.trans H; with_reducible exact H2_) | with_reducible exact H | (rw [hy113]; exact H) | exact H
        have Ny113 := Aside0.mk hy113
        clear hy113
        replace H := Option.bind_eq_some_iff.mp H
        obtain ⟨t116, A120, H⟩ := H
        try dsimp -simprocs only at H
        have A12 := Aside0.mk A120
        clear A120
        by_cases c13 : y113.length + t116.length < 140737488355328
        rotate_left
        · rw [if_neg c13] at H
          exact absurd H (by simp)
        rw [if_pos c13] at H
        have LMc13 := Aside0.mk c13
        clear c13
        obtain ⟨y119, hy119⟩ : ∃ y_ : List Int, y_ = (y113 ++ t116) := ⟨_, rfl⟩
        replace H : (if y119.length + ((rd_T28 l0 x11_1).f5).size < 140737488355328 then (wire_Encode.l0 k1 (y119 ++ bytesOf ((rd_T28 l0 x11_1).f5)) 0 l0 (l0.length : Int) (wrap64 (x11_1 + 1))) else (none)) = some (r1, r2) := by first | (rw [hy119]; with_reducible exact H) | (have H2_ := (Option.bind_some _ _).symm.trans H; rw [hy119]; with_reducible exact H2_) | (have H2_ := (Option.bind_some _ _).symm.trans H; with_reducible exact H2_) | with_reducible exact H | (rw [hy119]; exact H) | exact H
        have Ny119 := Aside0.mk hy119
        clear hy119
        by_cases c14 : y119.length + ((rd_T28 l0 x11_1).f5).size < 140737488355328
        rotate_left
        · rw [if_neg c14] at H
          exact absurd H (by simp)
        rw [if_pos c14] at H
        have LMc14 := Aside0.mk c14
        clear c14
        obtain ⟨y122, hy122⟩ : ∃ y_ : List Int, y_ = (y119 ++ bytesOf ((rd_T28 l0 x11_1).f5)) := ⟨_, rfl⟩
        replace H : (wire_Encode.l0 k1 y122 0 l0 (l0.length : Int) (wrap64 (x11_1 + 1))) = some (r1, r2) := by first | (rw [hy122]; with_reducible exact H) | (have H2_ := (Option.bind_some _ _).symm.trans H; rw [hy122]; with_reducible exact H2_) | (have H2_ := (Option.bind_some _ _).symm.trans H; with_reducible exact H2_) | with_reducible exact H | (rw [hy122]; exact H) | exact H
        have Ny122 := Aside0.mk hy122
        clear hy122
        have H' := Aside0.mk H
        clear H
        have p101 : 0 ≤ (x11_1 : Int) := of_decide_eq_true qq4
        have q101 : x11_1 < (l0.length : Int) := of_decide_eq_true qq4
        obtain ⟨ad101, e101, hx101_0, hx101_1, hx101_2, hx101_3, hx101_4, hx101_5⟩ := at_T28 HR0.out x11_1 p101 q101
        cases e101
        replace hx101_0 := (HB.out.cell (World.block_lt_of_cell? w _ hx101_0)).trans hx101_0
        replace hx101_1 := (HB.out.cell (World.block_lt_of_cell? w _ hx101_1)).trans hx101_1
        replace hx101_2 := (HB.out.cell (World.block_lt_of_cell? w _ hx101_2)).trans hx101_2
        replace hx101_3 := (HB.out.cell (World.block_lt_of_cell? w _ hx101_3)).trans hx101_3
        replace hx101_4 := (HB.out.cell (World.block_lt_of_cell? w _ hx101_4)).trans hx101_4
        replace hx101_5 := (HB.out.cell (World.block_lt_of_cell? w _ hx101_5)).trans hx101_5
        replace p101 := eq_true p101
        replace q101 := eq_true q101
        go_wp2_with (first | ((with_reducible refine gate_dst (N := 7) rfl ?_); refine box_event ?hg (N := 7) ?hd (cs := #[.int .i64 0, .int .i64 0, .int .i64 0, .int .i64 0, .int .i64 0, .string (⟨#[]⟩ : ByteArray)]) (t := 28) ?hr ?_; (case hd => rfl); (case hg => rfl); (case hr => exact qq6); intro gb102 hg w15 hbox hb; replace HO_4 := Aside0.mk (Kd.R_below (qR HO_4.out) hb); have BK102 := Aside0.mk (hbox); have GW102 := Aside0.mk ((qq9 : w.heap.size ≤ gb102)); have GE102 := Aside0.mk ((qq9 : w.heap.size ≤ gb102)); replace HB := Aside0.mk (below_step (qB HB.out) hb); clear hb hbox hg; obtain ⟨hcz16_0, hcz16_1, hcz16_2, hcz16_3, hcz16_4, hcz16_5, hfz16_0, hfz16_1, hfz16_2, hfz16_3, hfz16_4, hfz16_5⟩ := blk6 BK102.out) | ((with_reducible refine gate_callee (f := 35) rfl ?_); refine goesL_ (some 16) rfl rfl Try.func35 (by kernel_rfl) rfl #[.agg #[.int .i64 ((rd_T28 l0 x11_1).f0), .int .i64 ((rd_T28 l0 x11_1).f1), .int .i64 ((rd_T28 l0 x11_1).f2), .int .i64 ((rd_T28 l0 x11_1).f3), .int .i64 ((rd_T28 l0 x11_1).f4), .string ((rd_T28 l0 x11_1).f5)]] rfl qq0 ?_; (with_reducible refine (wire_Right.calls k1 ((rd_T28 l0 x11_1).f0) ((rd_T28 l0 x11_1).f1) ((rd_T28 l0 x11_1).f2) ((rd_T28 l0 x11_1).f3) ((rd_T28 l0 x11_1).f4) ((rd_T28 l0 x11_1).f5) true _ A5.out).mono ?_); rintro e w17 ⟨rfl, hb⟩; refine ⟨_, rfl, ?_⟩; replace HO_4 := Aside0.mk (Kd.R_below qq7 hb); replace BK102 := Aside0.mk (blk_below (g := gb102) (o := .cells #[.int .i64 ((rd_T28 l0 x11_1).f0), .int .i64 ((rd_T28 l0 x11_1).f1), .int .i64 ((rd_T28 l0 x11_1).f2), .int .i64 ((rd_T28 l0 x11_1).f3), .int .i64 ((rd_T28 l0 x11_1).f4), .string ((rd_T28 l0 x11_1).f5)] 28 (0, 0)) (by refine bq ?_; refine blk_put (cs := #[.int .i64 ((rd_T28 l0 x11_1).f0), .int .i64 ((rd_T28 l0 x11_1).f1), .int .i64 ((rd_T28 l0 x11_1).f2), .int .i64 ((rd_T28 l0 x11_1).f3), .int .i64 ((rd_T28 l0 x11_1).f4), .string (⟨#[]⟩ : ByteArray)]) ?_ 5 _ rfl; refine bq ?_; refine blk_put (cs := #[.int .i64 ((rd_T28 l0 x11_1).f0), .int .i64 ((rd_T28 l0 x11_1).f1), .int .i64 ((rd_T28 l0 x11_1).f2), .int .i64 ((rd_T28 l0 x11_1).f3), .int .i64 0, .string (⟨#[]⟩ : ByteArray)]) ?_ 4 _ rfl; refine bq ?_; refine blk_put (cs := #[.int .i64 ((rd_T28 l0 x11_1).f0), .int .i64 ((rd_T28 l0 x11_1).f1), .int .i64 ((rd_T28 l0 x11_1).f2), .int .i64 0, .int .i64 0, .string (⟨#[]⟩ : ByteArray)]) ?_ 3 _ rfl; refine bq ?_; refine blk_put (cs := #[.int .i64 ((rd_T28 l0 x11_1).f0), .int .i64 ((rd_T28 l0 x11_1).f1), .int .i64 0, .int .i64 0, .int .i64 0, .string (⟨#[]⟩ : ByteArray)]) ?_ 2 _ rfl; refine bq ?_; refine blk_put (cs := #[.int .i64 ((rd_T28 l0 x11_1).f0), .int .i64 0, .int .i64 0, .int .i64 0, .int .i64 0, .string (⟨#[]⟩ : ByteArray)]) ?_ 1 _ rfl; refine bq ?_; refine blk_put (cs := #[.int .i64 0, .int .i64 0, .int .i64 0, .int .i64 0, .int .i64 0, .string (⟨#[]⟩ : ByteArray)]) ?_ 0 _ rfl; exact bq BK102.out) hb); replace HB := Aside0.mk (below_step (qS1 GE102 HB.out) hb); (try clear hb); (try clear hb2); (try clear hk); (try clear hi); obtain ⟨hcz18_0, hcz18_1, hcz18_2, hcz18_3, hcz18_4, hcz18_5, hfz18_0, hfz18_1, hfz18_2, hfz18_3, hfz18_4, hfz18_5⟩ := blk6 BK102.out) | ((with_reducible refine gate_callee (f := 36) rfl ?_); refine goesL_ (some 21) rfl rfl Try.func36 (by kernel_rfl) rfl #[.int .i64 ((rd_T28 l0 x11_1).f0)] rfl qq0 ?_; (with_reducible refine (wire_number.calls ((rd_T28 l0 x11_1).f0) t104 _ A7.out).mono ?_); rintro e w19 ⟨v105, rfl, ho0, hb⟩; refine ⟨_, rfl, ?_⟩; have HO106 := Aside0.mk (Kd.R_lower (Kd.R_new' ho0 (Kd.R_lt (qR HO_4.out))) (below_size (qS1 GE102 HB.out))); replace HO_4 := Aside0.mk (Kd.R_elder' (qR HO_4.out) (Kd.R_base ho0) hb); replace BK102 := Aside0.mk (blk_below (bq BK102.out) hb); replace HB := Aside0.mk (below_step (qS1 GE102 HB.out) hb); (try clear hb); (try clear hb2); (try clear hk); (try clear hi); (try clear ho0); obtain ⟨Ao21, co21, eo21⟩ := Kd.R_slice HO106.out; subst eo21) | ((with_reducible refine gate_builtin (b := .append) (xs := #[.tmp 18, .tmp 21]) rfl ?_); at_builtin; refine Kd.R_append_rows (Kd.int .u8) (w0 := w) w.heap.size rfl (.tmp 18) (.tmp 21) 39 5 (.int .u8 0) 1 rfl Try.underlying39 info5 rfl (by decide) (by omega) u4 x4_1 t104 _ _ _ (fun k_ => some k_ ≠ (.slice Ao21 t104.length co21 : Value).ownBlock) (fun _ => False) rfl rfl ?aO ?aR (fun _ _ h => h) (fun _ h => h.elim) ?aF ?aB ?aS ?aL ?_; (case aR => repeat (first | exact (Kd.R_reads' HO106.out).2.2 | (with_reducible refine Kd.C_alloc ?_ _) | (with_reducible refine Kd.C_drewN ?_ _) | (with_reducible refine Kd.C_drew ?_))); (case aB => exact qq16); (case aF => exact qqm); (case aO => exact qqs); (case aS => exact qqx); (case aL => have := LMc8.out; omega); intro v108 w20 ho hb hg hat; rw [← Ny107.out] at ho; replace BK102 := Aside0.mk (blk_grown (bq BK102.out) hg (Kd.R_ne HO_4.out BK102.out (by decide))); replace HO106 := Aside0.mk (Kd.R_after (ok := (fun _ => True)) (qR HO106.out) hg hat); replace HB := Aside0.mk (hb); have HO109 := Aside0.mk (ho); clear HO_4; clear ho hb hg hat; obtain ⟨hcz22_0, hcz22_1, hcz22_2, hcz22_3, hcz22_4, hcz22_5, hfz22_0, hfz22_1, hfz22_2, hfz22_3, hfz22_4, hfz22_5⟩ := blk6 BK102.out) | ((with_reducible refine gate_builtin (b := .append) (xs := #[.tmp 35, .tmp 36]) rfl ?_); at_builtin; refine Kd.R_append (Kd.int .u8) (w0 := w) w.heap.size rfl (.tmp 35) (.tmp 36) 39 5 (.int .u8 0) 1 rfl Try.underlying39 info5 rfl (by decide) (by omega) v108 y107 255 [.int .u8 255] (fun k_ => some k_ ≠ (.slice Ao21 t104.length co21 : Value).ownBlock) (fun _ => False) rfl rfl ?aP (fun _ hk => hk.elim) ?aF ?aO ?aB ?aS ?aL ?_; (case aP => exact rfl); (case aB => exact qq16); (case aF => exact qqm); (case aO => exact (qR HO109.out)); (case aS => exact qqx); (case aL => have := LMc10.out; omega); intro v111 w23 ho hb hg hat; rw [← Ny110.out] at ho; replace BK102 := Aside0.mk (blk_grown (bq BK102.out) hg (Kd.R_ne HO109.out BK102.out (by decide))); replace HO106 := Aside0.mk (Kd.R_after (ok := (fun _ => True)) (qR HO106.out) hg hat); replace HB := Aside0.mk (hb); have HO112 := Aside0.mk (ho); clear HO109; clear ho hb hg hat; obtain ⟨hcz24_0, hcz24_1, hcz24_2, hcz24_3, hcz24_4, hcz24_5, hfz24_0, hfz24_1, hfz24_2, hfz24_3, hfz24_4, hfz24_5⟩ := blk6 BK102.out) | ((with_reducible refine gate_builtin (b := .append) (xs := #[.tmp 38, .tmp 42]) rfl ?_); at_builtin; refine Kd.R_append (Kd.int .u8) (w0 := w) w.heap.size rfl (.tmp 38) (.tmp 42) 39 5 (.int .u8 0) 1 rfl Try.underlying39 info5 rfl (by decide) (by omega) v111 y110 (((rd_T28 l0 x11_1).f3) % 256) [.int .u8 (((rd_T28 l0 x11_1).f3) % 256)] (fun k_ => some k_ ≠ (.slice Ao21 t104.length co21 : Value).ownBlock) (fun _ => False) rfl rfl ?aP (fun _ hk => hk.elim) ?aF ?aO ?aB ?aS ?aL ?_; (case aP => exact rfl); (case aB => exact qq16); (case aF => exact qqm); (case aO => exact (qR HO112.out)); (case aS => exact qqx); (case aL => have := LMc11.out; omega); intro v114 w25 ho hb hg hat; rw [← Ny113.out] at ho; replace BK102 := Aside0.mk (blk_grown (bq BK102.out) hg (Kd.R_ne HO112.out BK102.out (by decide))); replace HO106 := Aside0.mk (Kd.R_after (ok := (fun _ => True)) (qR HO106.out) hg hat); replace HB := Aside0.mk (hb); have HO115 := Aside0.mk (ho); clear HO112; clear ho hb hg hat; obtain ⟨hcz26_0, hcz26_1, hcz26_2, hcz26_3, hcz26_4, hcz26_5, hfz26_0, hfz26_1, hfz26_2, hfz26_3, hfz26_4, hfz26_5⟩ := blk6 BK102.out) | ((with_reducible refine gate_callee (f := 36) rfl ?_); refine goesL_ (some 48) rfl rfl Try.func36 (by kernel_rfl) rfl #[.int .i64 (((rd_T28 l0 x11_1).f5).size : Int)] rfl qq0 ?_; (with_reducible refine (wire_number.calls (((rd_T28 l0 x11_1).f5).size : Int) t116 _ A12.out).mono ?_); rintro e w27 ⟨v117, rfl, ho0, hb⟩; refine ⟨_, rfl, ?_⟩; have HO118 := Aside0.mk (Kd.R_lower (Kd.R_new' (Kd.R_new' ho0 (Kd.R_lt (qR HO106.out))) (Kd.R_lt (qR HO115.out))) (below_size (qS1 GE102 HB.out))); replace HO106 := Aside0.mk (Kd.R_elder' (qR HO106.out) (Kd.R_base ho0) hb); replace HO115 := Aside0.mk (Kd.R_elder' (qR HO115.out) (Kd.R_base ho0) hb); replace BK102 := Aside0.mk (blk_below (bq BK102.out) hb); replace HB := Aside0.mk (below_step (qS1 GE102 HB.out) hb); (try clear hb); (try clear hb2); (try clear hk); (try clear hi); (try clear ho0); obtain ⟨Ao29, co29, eo29⟩ := Kd.R_slice HO118.out; subst eo29) | ((with_reducible refine gate_builtin (b := .append) (xs := #[.tmp 44, .tmp 48]) rfl ?_); at_builtin; refine Kd.R_append_rows (Kd.int .u8) (w0 := w) w.heap.size rfl (.tmp 44) (.tmp 48) 39 5 (.int .u8 0) 1 rfl Try.underlying39 info5 rfl (by decide) (by omega) v114 y113 t116 _ _ _ (fun k_ => some k_ ≠ (.slice Ao21 t104.length co21 : Value).ownBlock ∧ some k_ ≠ (.slice Ao29 t116.length co29 : Value).ownBlock) (fun _ => False) rfl rfl ?aO ?aR (fun _ _ h => h) (fun _ h => h.elim) ?aF ?aB ?aS ?aL ?_; (case aR => repeat (first | exact (Kd.R_reads' HO118.out).2.2 | (with_reducible refine Kd.C_alloc ?_ _) | (with_reducible refine Kd.C_drewN ?_ _) | (with_reducible refine Kd.C_drew ?_))); (case aB => exact qq16); (case aF => exact (fun k_ hk => ⟨Kd.fresh' (Kd.R_lt (qR HO106.out)) k_ hk, Kd.fresh' (Kd.R_lt (qR HO118.out)) k_ hk⟩)); (case aO => exact (qR HO115.out)); (case aS => exact qqx); (case aL => have := LMc13.out; omega); intro v120 w28 ho hb hg hat; rw [← Ny119.out] at ho; replace BK102 := Aside0.mk (blk_grown (bq BK102.out) hg (Kd.R_ne HO115.out BK102.out (by decide))); replace HO106 := Aside0.mk (Kd.R_after (ok := (fun k_ => some k_ ≠ (.slice Ao29 t116.length co29 : Value).ownBlock)) qq1s hg hat); replace HO118 := Aside0.mk (Kd.R_after (ok := (fun k_ => some k_ ≠ (.slice Ao21 t104.length co21 : Value).ownBlock)) (by (with_reducible repeat (first | apply Kd.R_alloc | apply Kd.R_drewN | apply Kd.R_drew)); exact Kd.R_mono HO118.out (fun _ hk => ⟨hk.1.2, hk.2⟩)) hg hat); replace HB := Aside0.mk (hb); have HO121 := Aside0.mk (ho); clear HO115; clear ho hb hg hat; obtain ⟨hcz30_0, hcz30_1, hcz30_2, hcz30_3, hcz30_4, hcz30_5, hfz30_0, hfz30_1, hfz30_2, hfz30_3, hfz30_4, hfz30_5⟩ := blk6 BK102.out) | (at_builtin; refine print_append_str (w0 := w) w.heap.size rfl (.tmp 50) _ 39 9 5 rfl Try.underlying39 Try.underlying9 info5 v120 y119 ((rd_T28 l0 x11_1).f5) rfl rfl ?aO ?aB ?aS ?aL ?_; (case aB => exact qq16); (case aO => exact (Kd.own_of_R (by (with_reducible repeat (first | apply Kd.R_alloc | apply Kd.R_drewN | apply Kd.R_drew)); exact Kd.R_mono HO121.out (fun _ hk => trivial)))); (case aS => exact qqx); (case aL => have := LMc14.out; omega); intro v123 w31 ho0 hb hg; have ho := Kd.R_of_own (h1 := fun _ => rfl) (ok := fun _ => True) ho0 (fun _ _ => trivial); clear ho0; have hat := True.intro; rw [← Ny122.out] at ho; change Kd.R (Kd.int .u8) 5 w31 w.heap.size (fun _ => True) v123 y122 at ho; replace BK102 := Aside0.mk (blk_grown (bq BK102.out) hg (Kd.R_ne HO121.out BK102.out (by decide))); replace HB := Aside0.mk (hb); have HO124 := Aside0.mk (ho); clear HO121; clear ho hb hg hat))
        go_roundg k1
        case measure => have := HK1.out; omega
        case rel => exact ⟨(y122), (0), (wrap64 (x11_1 + 1)), qq8, qq8, H', ⟨qq18⟩, ⟨qR HO124.out⟩, ⟨qS1 GE102 HB.out⟩⟩
      rw [if_neg c9] at H
      have c9b0 : (((rd_T28 l0 x11_1).f1) == 16) = false := beq_eq_false_iff_ne.mpr c9
      have c9b1 : (((rd_T28 l0 x11_1).f1) != 16) = true := bne_iff_ne.mpr c9
      by_cases c32 : ((rd_T28 l0 x11_1).f1) = 15
      · rw [if_pos c32] at H
        have c32b0 : (((rd_T28 l0 x11_1).f1) == 15) = true := beq_iff_eq.mpr c32
        have c32b1 : (((rd_T28 l0 x11_1).f1) != 15) = false := bne_eq_false_iff_eq.mpr c32
        clear c32
        by_cases c33 : y107.length < 140737488355328
        rotate_left
        · rw [if_neg c33] at H
          exact absurd H (by simp)
        rw [if_pos c33] at H
        have LMc33 := Aside0.mk c33
        clear c33
        obtain ⟨y125, hy125⟩ : ∃ y_ : List Int, y_ = (y107 ++ [((rd_T28 l0 x11_1).f3) % 256]) := ⟨_, rfl⟩
        replace H : ((wire_number.f (((rd_T28 l0 x11_1).f5).size : Int)).bind fun t128 => (if y125.length + t128.length < 140737488355328 then ((some (y125 ++ t128 : List Int)).bind fun y131 => (if y131.length + ((rd_T28 l0 x11_1).f5).size < 140737488355328 then (wire_Encode.l0 k1 (y131 ++ bytesOf ((rd_T28 l0 x11_1).f5)) 0 l0 (l0.length : Int) (wrap64 (x11_1 + 1))) else (none))) else (none))) = some (r1, r2) := by first | (rw [hy125]; with_reducible exact H) | (have H2_ := (Option.bind_some _ _).symm.trans H; rw [hy125]; with_reducible exact H2_) | (have H2_ := (Option.bind_some _ _).symm.trans H; with_reducible exact H2_) | with_reducible exact H | (rw [hy125]; exact H) | exact H
        have Ny125 := Aside0.mk hy125
        clear hy125
        replace H := Option.bind_eq_some_iff.mp H
        obtain ⟨t128, A340, H⟩ := H
        try dsimp -simprocs only at H
        have A34 := Aside0.mk A340
        clear A340
        by_cases c35 : y125.length + t128.length < 140737488355328
        rotate_left
        · rw [if_neg c35] at H
          exact absurd H (by simp)
        rw [if_pos c35] at H
        have LMc35 := Aside0.mk c35
        clear c35
        obtain ⟨y131, hy131⟩ : ∃ y_ : List Int, y_ = (y125 ++ t128) := ⟨_, rfl⟩
        replace H : (if y131.length + ((rd_T28 l0 x11_1).f5).size < 140737488355328 then (wire_Encode.l0 k1 (y131 ++ bytesOf ((rd_T28 l0 x11_1).f5)) 0 l0 (l0.length : Int) (wrap64 (x11_1 + 1))) else (none)) = some (r1, r2) := by first | (rw [hy131]; with_reducible exact H) | (have H2_ := (Option.bind_some _ _).symm.trans H; rw [hy131]; with_reducible exact H2_) | (have H2_ := (Option.bind_some _ _).symm.trans H; with_reducible exact H2_) | with_reducible exact H | (rw [hy131]; exact H) | exact H
        have Ny131 := Aside0.mk hy131
        clear hy131
        by_cases c36 : y131.length + ((rd_T28 l0 x11_1).f5).size < 140737488355328
        rotate_left
        · rw [if_neg c36] at H
          exact absurd H (by simp)
        rw [if_pos c36] at H
        have LMc36 := Aside0.mk c36
        clear c36
        obtain ⟨y134, hy134⟩ : ∃ y_ : List Int, y_ = (y131 ++ bytesOf ((rd_T28 l0 x11_1).f5)) := ⟨_, rfl⟩
        replace H : (wire_Encode.l0 k1 y134 0 l0 (l0.length : Int) (wrap64 (x11_1 + 1))) = some (r1, r2) := by first | (rw [hy134]; with_reducible exact H) | (have H2_ := (Option.bind_some _ _).symm.trans H; rw [hy134]; with_reducible exact H2_) | (have H2_ := (Option.bind_some _ _).symm.trans H; with_reducible exact H2_) | with_reducible exact H | (rw [hy134]; exact H) | exact H
        have Ny134 := Aside0.mk hy134
        clear hy134
        have H' := Aside0.mk H
        clear H
        have p101 : 0 ≤ (x11_1 : Int) := of_decide_eq_true qq4
        have q101 : x11_1 < (l0.length : Int) := of_decide_eq_true qq4
        obtain ⟨ad101, e101, hx101_0, hx101_1, hx101_2, hx101_3, hx101_4, hx101_5⟩ := at_T28 HR0.out x11_1 p101 q101
        cases e101
        replace hx101_0 := (HB.out.cell (World.block_lt_of_cell? w _ hx101_0)).trans hx101_0
        replace hx101_1 := (HB.out.cell (World.block_lt_of_cell? w _ hx101_1)).trans hx101_1
        replace hx101_2 := (HB.out.cell (World.block_lt_of_cell? w _ hx101_2)).trans hx101_2
        replace hx101_3 := (HB.out.cell (World.block_lt_of_cell? w _ hx101_3)).trans hx101_3
        replace hx101_4 := (HB.out.cell (World.block_lt_of_cell? w _ hx101_4)).trans hx101_4
        replace hx101_5 := (HB.out.cell (World.block_lt_of_cell? w _ hx101_5)).trans hx101_5
        replace p101 := eq_true p101
        replace q101 := eq_true q101
        go_wp2_with (first | ((with_reducible refine gate_dst (N := 7) rfl ?_); refine box_event ?hg (N := 7) ?hd (cs := #[.int .i64 0, .int .i64 0, .int .i64 0, .int .i64 0, .int .i64 0, .string (⟨#[]⟩ : ByteArray)]) (t := 28) ?hr ?_; (case hd => rfl); (case hg => rfl); (case hr => exact qq6); intro gb102 hg w37 hbox hb; replace HO_4 := Aside0.mk (Kd.R_below (qR HO_4.out) hb); have BK102 := Aside0.mk (hbox); have GW102 := Aside0.mk ((qq9 : w.heap.size ≤ gb102)); have GE102 := Aside0.mk ((qq9 : w.heap.size ≤ gb102)); replace HB := Aside0.mk (below_step (qB HB.out) hb); clear hb hbox hg; obtain ⟨hcz38_0, hcz38_1, hcz38_2, hcz38_3, hcz38_4, hcz38_5, hfz38_0, hfz38_1, hfz38_2, hfz38_3, hfz38_4, hfz38_5⟩ := blk6 BK102.out) | ((with_reducible refine gate_callee (f := 35) rfl ?_); refine goesL_ (some 16) rfl rfl Try.func35 (by kernel_rfl) rfl #[.agg #[.int .i64 ((rd_T28 l0 x11_1).f0), .int .i64 ((rd_T28 l0 x11_1).f1), .int .i64 ((rd_T28 l0 x11_1).f2), .int .i64 ((rd_T28 l0 x11_1).f3), .int .i64 ((rd_T28 l0 x11_1).f4), .string ((rd_T28 l0 x11_1).f5)]] rfl qq0 ?_; (with_reducible refine (wire_Right.calls k1 ((rd_T28 l0 x11_1).f0) ((rd_T28 l0 x11_1).f1) ((rd_T28 l0 x11_1).f2) ((rd_T28 l0 x11_1).f3) ((rd_T28 l0 x11_1).f4) ((rd_T28 l0 x11_1).f5) true _ A5.out).mono ?_); rintro e w39 ⟨rfl, hb⟩; refine ⟨_, rfl, ?_⟩; replace HO_4 := Aside0.mk (Kd.R_below qq7 hb); replace BK102 := Aside0.mk (blk_below (g := gb102) (o := .cells #[.int .i64 ((rd_T28 l0 x11_1).f0), .int .i64 ((rd_T28 l0 x11_1).f1), .int .i64 ((rd_T28 l0 x11_1).f2), .int .i64 ((rd_T28 l0 x11_1).f3), .int .i64 ((rd_T28 l0 x11_1).f4), .string ((rd_T28 l0 x11_1).f5)] 28 (0, 0)) (by refine bq ?_; refine blk_put (cs := #[.int .i64 ((rd_T28 l0 x11_1).f0), .int .i64 ((rd_T28 l0 x11_1).f1), .int .i64 ((rd_T28 l0 x11_1).f2), .int .i64 ((rd_T28 l0 x11_1).f3), .int .i64 ((rd_T28 l0 x11_1).f4), .string (⟨#[]⟩ : ByteArray)]) ?_ 5 _ rfl; refine bq ?_; refine blk_put (cs := #[.int .i64 ((rd_T28 l0 x11_1).f0), .int .i64 ((rd_T28 l0 x11_1).f1), .int .i64 ((rd_T28 l0 x11_1).f2), .int .i64 ((rd_T28 l0 x11_1).f3), .int .i64 0, .string (⟨#[]⟩ : ByteArray)]) ?_ 4 _ rfl; refine bq ?_; refine blk_put (cs := #[.int .i64 ((rd_T28 l0 x11_1).f0), .int .i64 ((rd_T28 l0 x11_1).f1), .int .i64 ((rd_T28 l0 x11_1).f2), .int .i64 0, .int .i64 0, .string (⟨#[]⟩ : ByteArray)]) ?_ 3 _ rfl; refine bq ?_; refine blk_put (cs := #[.int .i64 ((rd_T28 l0 x11_1).f0), .int .i64 ((rd_T28 l0 x11_1).f1), .int .i64 0, .int .i64 0, .int .i64 0, .string (⟨#[]⟩ : ByteArray)]) ?_ 2 _ rfl; refine bq ?_; refine blk_put (cs := #[.int .i64 ((rd_T28 l0 x11_1).f0), .int .i64 0, .int .i64 0, .int .i64 0, .int .i64 0, .string (⟨#[]⟩ : ByteArray)]) ?_ 1 _ rfl; refine bq ?_; refine blk_put (cs := #[.int .i64 0, .int .i64 0, .int .i64 0, .int .i64 0, .int .i64 0, .string (⟨#[]⟩ : ByteArray)]) ?_ 0 _ rfl; exact bq BK102.out) hb); replace HB := Aside0.mk (below_step (qS1 GE102 HB.out) hb); (try clear hb); (try clear hb2); (try clear hk); (try clear hi); obtain ⟨hcz40_0, hcz40_1, hcz40_2, hcz40_3, hcz40_4, hcz40_5, hfz40_0, hfz40_1, hfz40_2, hfz40_3, hfz40_4, hfz40_5⟩ := blk6 BK102.out) | ((with_reducible refine gate_callee (f := 36) rfl ?_); refine goesL_ (some 21) rfl rfl Try.func36 (by kernel_rfl) rfl #[.int .i64 ((rd_T28 l0 x11_1).f0)] rfl qq0 ?_; (with_reducible refine (wire_number.calls ((rd_T28 l0 x11_1).f0) t104 _ A7.out).mono ?_); rintro e w41 ⟨v105, rfl, ho0, hb⟩; refine ⟨_, rfl, ?_⟩; have HO106 := Aside0.mk (Kd.R_lower (Kd.R_new' ho0 (Kd.R_lt (qR HO_4.out))) (below_size (qS1 GE102 HB.out))); replace HO_4 := Aside0.mk (Kd.R_elder' (qR HO_4.out) (Kd.R_base ho0) hb); replace BK102 := Aside0.mk (blk_below (bq BK102.out) hb); replace HB := Aside0.mk (below_step (qS1 GE102 HB.out) hb); (try clear hb); (try clear hb2); (try clear hk); (try clear hi); (try clear ho0); obtain ⟨Ao43, co43, eo43⟩ := Kd.R_slice HO106.out; subst eo43) | ((with_reducible refine gate_builtin (b := .append) (xs := #[.tmp 18, .tmp 21]) rfl ?_); at_builtin; refine Kd.R_append_rows (Kd.int .u8) (w0 := w) w.heap.size rfl (.tmp 18) (.tmp 21) 39 5 (.int .u8 0) 1 rfl Try.underlying39 info5 rfl (by decide) (by omega) u4 x4_1 t104 _ _ _ (fun k_ => some k_ ≠ (.slice Ao43 t104.length co43 : Value).ownBlock) (fun _ => False) rfl rfl ?aO ?aR (fun _ _ h => h) (fun _ h => h.elim) ?aF ?aB ?aS ?aL ?_; (case aR => repeat (first | exact (Kd.R_reads' HO106.out).2.2 | (with_reducible refine Kd.C_alloc ?_ _) | (with_reducible refine Kd.C_drewN ?_ _) | (with_reducible refine Kd.C_drew ?_))); (case aB => exact qq16); (case aF => exact qqm); (case aO => exact qqs); (case aS => exact qqx); (case aL => have := LMc8.out; omega); intro v108 w42 ho hb hg hat; rw [← Ny107.out] at ho; replace BK102 := Aside0.mk (blk_grown (bq BK102.out) hg (Kd.R_ne HO_4.out BK102.out (by decide))); replace HO106 := Aside0.mk (Kd.R_after (ok := (fun _ => True)) (qR HO106.out) hg hat); replace HB := Aside0.mk (hb); have HO109 := Aside0.mk (ho); clear HO_4; clear ho hb hg hat; obtain ⟨hcz44_0, hcz44_1, hcz44_2, hcz44_3, hcz44_4, hcz44_5, hfz44_0, hfz44_1, hfz44_2, hfz44_3, hfz44_4, hfz44_5⟩ := blk6 BK102.out) | ((with_reducible refine gate_builtin (b := .append) (xs := #[.tmp 38, .tmp 42]) rfl ?_); at_builtin; refine Kd.R_append (Kd.int .u8) (w0 := w) w.heap.size rfl (.tmp 38) (.tmp 42) 39 5 (.int .u8 0) 1 rfl Try.underlying39 info5 rfl (by decide) (by omega) v108 y107 (((rd_T28 l0 x11_1).f3) % 256) [.int .u8 (((rd_T28 l0 x11_1).f3) % 256)] (fun k_ => some k_ ≠ (.slice Ao43 t104.length co43 : Value).ownBlock) (fun _ => False) rfl rfl ?aP (fun _ hk => hk.elim) ?aF ?aO ?aB ?aS ?aL ?_; (case aP => exact rfl); (case aB => exact qq16); (case aF => exact qqm); (case aO => exact (qR HO109.out)); (case aS => exact qqx); (case aL => have := LMc33.out; omega); intro v126 w45 ho hb hg hat; rw [← Ny125.out] at ho; replace BK102 := Aside0.mk (blk_grown (bq BK102.out) hg (Kd.R_ne HO109.out BK102.out (by decide))); replace HO106 := Aside0.mk (Kd.R_after (ok := (fun _ => True)) (qR HO106.out) hg hat); replace HB := Aside0.mk (hb); have HO127 := Aside0.mk (ho); clear HO109; clear ho hb hg hat; obtain ⟨hcz46_0, hcz46_1, hcz46_2, hcz46_3, hcz46_4, hcz46_5, hfz46_0, hfz46_1, hfz46_2, hfz46_3, hfz46_4, hfz46_5⟩ := blk6 BK102.out) | ((with_reducible refine gate_callee (f := 36) rfl ?_); refine goesL_ (some 48) rfl rfl Try.func36 (by kernel_rfl) rfl #[.int .i64 (((rd_T28 l0 x11_1).f5).size : Int)] rfl qq0 ?_; (with_reducible refine (wire_number.calls (((rd_T28 l0 x11_1).f5).size : Int) t128 _ A34.out).mono ?_); rintro e w47 ⟨v129, rfl, ho0, hb⟩; refine ⟨_, rfl, ?_⟩; have HO130 := Aside0.mk (Kd.R_lower (Kd.R_new' (Kd.R_new' ho0 (Kd.R_lt (qR HO106.out))) (Kd.R_lt (qR HO127.out))) (below_size (qS1 GE102 HB.out))); replace HO106 := Aside0.mk (Kd.R_elder' (qR HO106.out) (Kd.R_base ho0) hb); replace HO127 := Aside0.mk (Kd.R_elder' (qR HO127.out) (Kd.R_base ho0) hb); replace BK102 := Aside0.mk (blk_below (bq BK102.out) hb); replace HB := Aside0.mk (below_step (qS1 GE102 HB.out) hb); (try clear hb); (try clear hb2); (try clear hk); (try clear hi); (try clear ho0); obtain ⟨Ao49, co49, eo49⟩ := Kd.R_slice HO130.out; subst eo49) | ((with_reducible refine gate_builtin (b := .append) (xs := #[.tmp 44, .tmp 48]) rfl ?_); at_builtin; refine Kd.R_append_rows (Kd.int .u8) (w0 := w) w.heap.size rfl (.tmp 44) (.tmp 48) 39 5 (.int .u8 0) 1 rfl Try.underlying39 info5 rfl (by decide) (by omega) v126 y125 t128 _ _ _ (fun k_ => some k_ ≠ (.slice Ao43 t104.length co43 : Value).ownBlock ∧ some k_ ≠ (.slice Ao49 t128.length co49 : Value).ownBlock) (fun _ => False) rfl rfl ?aO ?aR (fun _ _ h => h) (fun _ h => h.elim) ?aF ?aB ?aS ?aL ?_; (case aR => repeat (first | exact (Kd.R_reads' HO130.out).2.2 | (with_reducible refine Kd.C_alloc ?_ _) | (with_reducible refine Kd.C_drewN ?_ _) | (with_reducible refine Kd.C_drew ?_))); (case aB => exact qq16); (case aF => exact (fun k_ hk => ⟨Kd.fresh' (Kd.R_lt (qR HO106.out)) k_ hk, Kd.fresh' (Kd.R_lt (qR HO130.out)) k_ hk⟩)); (case aO => exact (qR HO127.out)); (case aS => exact qqx); (case aL => have := LMc35.out; omega); intro v132 w48 ho hb hg hat; rw [← Ny131.out] at ho; replace BK102 := Aside0.mk (blk_grown (bq BK102.out) hg (Kd.R_ne HO127.out BK102.out (by decide))); replace HO106 := Aside0.mk (Kd.R_after (ok := (fun k_ => some k_ ≠ (.slice Ao49 t128.length co49 : Value).ownBlock)) qq1s hg hat); replace HO130 := Aside0.mk (Kd.R_after (ok := (fun k_ => some k_ ≠ (.slice Ao43 t104.length co43 : Value).ownBlock)) (by (with_reducible repeat (first | apply Kd.R_alloc | apply Kd.R_drewN | apply Kd.R_drew)); exact Kd.R_mono HO130.out (fun _ hk => ⟨hk.1.2, hk.2⟩)) hg hat); replace HB := Aside0.mk (hb); have HO133 := Aside0.mk (ho); clear HO127; clear ho hb hg hat; obtain ⟨hcz50_0, hcz50_1, hcz50_2, hcz50_3, hcz50_4, hcz50_5, hfz50_0, hfz50_1, hfz50_2, hfz50_3, hfz50_4, hfz50_5⟩ := blk6 BK102.out) | (at_builtin; refine print_append_str (w0 := w) w.heap.size rfl (.tmp 50) _ 39 9 5 rfl Try.underlying39 Try.underlying9 info5 v132 y131 ((rd_T28 l0 x11_1).f5) rfl rfl ?aO ?aB ?aS ?aL ?_; (case aB => exact qq16); (case aO => exact (Kd.own_of_R (by (with_reducible repeat (first | apply Kd.R_alloc | apply Kd.R_drewN | apply Kd.R_drew)); exact Kd.R_mono HO133.out (fun _ hk => trivial)))); (case aS => exact qqx); (case aL => have := LMc36.out; omega); intro v135 w51 ho0 hb hg; have ho := Kd.R_of_own (h1 := fun _ => rfl) (ok := fun _ => True) ho0 (fun _ _ => trivial); clear ho0; have hat := True.intro; rw [← Ny134.out] at ho; change Kd.R (Kd.int .u8) 5 w51 w.heap.size (fun _ => True) v135 y134 at ho; replace BK102 := Aside0.mk (blk_grown (bq BK102.out) hg (Kd.R_ne HO133.out BK102.out (by decide))); replace HB := Aside0.mk (hb); have HO136 := Aside0.mk (ho); clear HO133; clear ho hb hg hat))
        go_roundg k1
        case measure => have := HK1.out; omega
        case rel => exact ⟨(y134), (0), (wrap64 (x11_1 + 1)), qq8, qq8, H', ⟨qq18⟩, ⟨qR HO136.out⟩, ⟨qS1 GE102 HB.out⟩⟩
      rw [if_neg c32] at H
      have c32b0 : (((rd_T28 l0 x11_1).f1) == 15) = false := beq_eq_false_iff_ne.mpr c32
      have c32b1 : (((rd_T28 l0 x11_1).f1) != 15) = true := bne_iff_ne.mpr c32
      by_cases c52 : (wrap64 ((wrap64 (16 * ((rd_T28 l0 x11_1).f1))) + ((rd_T28 l0 x11_1).f2))) = x5_1
      · rw [if_pos c52] at H
        have c52b0 : ((wrap64 ((wrap64 (16 * ((rd_T28 l0 x11_1).f1))) + ((rd_T28 l0 x11_1).f2))) == x5_1) = true := beq_iff_eq.mpr c52
        have c52b1 : ((wrap64 ((wrap64 (16 * ((rd_T28 l0 x11_1).f1))) + ((rd_T28 l0 x11_1).f2))) != x5_1) = false := bne_eq_false_iff_eq.mpr c52
        clear c52
        by_cases c53 : y107.length < 140737488355328
        rotate_left
        · rw [if_neg c53] at H
          exact absurd H (by simp)
        rw [if_pos c53] at H
        have LMc53 := Aside0.mk c53
        clear c53
        obtain ⟨y137, hy137⟩ : ∃ y_ : List Int, y_ = (y107 ++ [((rd_T28 l0 x11_1).f3) % 256]) := ⟨_, rfl⟩
        replace H : ((wire_one.f ((rd_T28 l0 x11_1).f1)).bind fun t140 => (if t140 = true then (wire_Encode.l0 k1 y137 (wrap64 ((wrap64 (16 * ((rd_T28 l0 x11_1).f1))) + ((rd_T28 l0 x11_1).f2))) l0 (l0.length : Int) (wrap64 (x11_1 + 1))) else (if y137.length < 140737488355328 then (wire_Encode.l0 k1 (y137 ++ [((rd_T28 l0 x11_1).f4) % 256]) (wrap64 ((wrap64 (16 * ((rd_T28 l0 x11_1).f1))) + ((rd_T28 l0 x11_1).f2))) l0 (l0.length : Int) (wrap64 (x11_1 + 1))) else (none)))) = some (r1, r2) := by first | (rw [hy137]; with_reducible exact H) | (have H2_ := (Option.bind_some _ _).symm.trans H; rw [hy137]; with_reducible exact H2_) | (have H2_ := (Option.bind_some _ _).symm.trans H; with_reducible exact H2_) | with_reducible exact H | (rw [hy137]; exact H) | exact H
        have Ny137 := Aside0.mk hy137
        clear hy137
        replace H := Option.bind_eq_some_iff.mp H
        obtain ⟨t140, A540, H⟩ := H
        try dsimp -simprocs only at H
        have A54 := Aside0.mk A540
        clear A540
        by_cases c55 : t140 = true
        · subst c55
          have H1 : (wire_Encode.l0 k1 y137 (wrap64 ((wrap64 (16 * ((rd_T28 l0 x11_1).f1))) + ((rd_T28 l0 x11_1).f2))) l0 (l0.length : Int) (wrap64 (x11_1 + 1))) = some (r1, r2) := by rw [if_pos rfl] at H; exact H
          clear H
          have H := H1
          clear H1
          have H' := Aside0.mk H
          clear H
          have p101 : 0 ≤ (x11_1 : Int) := of_decide_eq_true qq4
          have q101 : x11_1 < (l0.length : Int) := of_decide_eq_true qq4
          obtain ⟨ad101, e101, hx101_0, hx101_1, hx101_2, hx101_3, hx101_4, hx101_5⟩ := at_T28 HR0.out x11_1 p101 q101
          cases e101
          replace hx101_0 := (HB.out.cell (World.block_lt_of_cell? w _ hx101_0)).trans hx101_0
          replace hx101_1 := (HB.out.cell (World.block_lt_of_cell? w _ hx101_1)).trans hx101_1
          replace hx101_2 := (HB.out.cell (World.block_lt_of_cell? w _ hx101_2)).trans hx101_2
          replace hx101_3 := (HB.out.cell (World.block_lt_of_cell? w _ hx101_3)).trans hx101_3
          replace hx101_4 := (HB.out.cell (World.block_lt_of_cell? w _ hx101_4)).trans hx101_4
          replace hx101_5 := (HB.out.cell (World.block_lt_of_cell? w _ hx101_5)).trans hx101_5
          replace p101 := eq_true p101
          replace q101 := eq_true q101
          go_wp2_with (first | ((with_reducible refine gate_dst (N := 7) rfl ?_); refine box_event ?hg (N := 7) ?hd (cs := #[.int .i64 0, .int .i64 0, .int .i64 0, .int .i64 0, .int .i64 0, .string (⟨#[]⟩ : ByteArray)]) (t := 28) ?hr ?_; (case hd => rfl); (case hg => rfl); (case hr => exact qq6); intro gb102 hg w56 hbox hb; replace HO_4 := Aside0.mk (Kd.R_below (qR HO_4.out) hb); have BK102 := Aside0.mk (hbox); have GW102 := Aside0.mk ((qq9 : w.heap.size ≤ gb102)); have GE102 := Aside0.mk ((qq9 : w.heap.size ≤ gb102)); replace HB := Aside0.mk (below_step (qB HB.out) hb); clear hb hbox hg; obtain ⟨hcz57_0, hcz57_1, hcz57_2, hcz57_3, hcz57_4, hcz57_5, hfz57_0, hfz57_1, hfz57_2, hfz57_3, hfz57_4, hfz57_5⟩ := blk6 BK102.out) | ((with_reducible refine gate_callee (f := 35) rfl ?_); refine goesL_ (some 16) rfl rfl Try.func35 (by kernel_rfl) rfl #[.agg #[.int .i64 ((rd_T28 l0 x11_1).f0), .int .i64 ((rd_T28 l0 x11_1).f1), .int .i64 ((rd_T28 l0 x11_1).f2), .int .i64 ((rd_T28 l0 x11_1).f3), .int .i64 ((rd_T28 l0 x11_1).f4), .string ((rd_T28 l0 x11_1).f5)]] rfl qq0 ?_; (with_reducible refine (wire_Right.calls k1 ((rd_T28 l0 x11_1).f0) ((rd_T28 l0 x11_1).f1) ((rd_T28 l0 x11_1).f2) ((rd_T28 l0 x11_1).f3) ((rd_T28 l0 x11_1).f4) ((rd_T28 l0 x11_1).f5) true _ A5.out).mono ?_); rintro e w58 ⟨rfl, hb⟩; refine ⟨_, rfl, ?_⟩; replace HO_4 := Aside0.mk (Kd.R_below qq7 hb); replace BK102 := Aside0.mk (blk_below (g := gb102) (o := .cells #[.int .i64 ((rd_T28 l0 x11_1).f0), .int .i64 ((rd_T28 l0 x11_1).f1), .int .i64 ((rd_T28 l0 x11_1).f2), .int .i64 ((rd_T28 l0 x11_1).f3), .int .i64 ((rd_T28 l0 x11_1).f4), .string ((rd_T28 l0 x11_1).f5)] 28 (0, 0)) (by refine bq ?_; refine blk_put (cs := #[.int .i64 ((rd_T28 l0 x11_1).f0), .int .i64 ((rd_T28 l0 x11_1).f1), .int .i64 ((rd_T28 l0 x11_1).f2), .int .i64 ((rd_T28 l0 x11_1).f3), .int .i64 ((rd_T28 l0 x11_1).f4), .string (⟨#[]⟩ : ByteArray)]) ?_ 5 _ rfl; refine bq ?_; refine blk_put (cs := #[.int .i64 ((rd_T28 l0 x11_1).f0), .int .i64 ((rd_T28 l0 x11_1).f1), .int .i64 ((rd_T28 l0 x11_1).f2), .int .i64 ((rd_T28 l0 x11_1).f3), .int .i64 0, .string (⟨#[]⟩ : ByteArray)]) ?_ 4 _ rfl; refine bq ?_; refine blk_put (cs := #[.int .i64 ((rd_T28 l0 x11_1).f0), .int .i64 ((rd_T28 l0 x11_1).f1), .int .i64 ((rd_T28 l0 x11_1).f2), .int .i64 0, .int .i64 0, .string (⟨#[]⟩ : ByteArray)]) ?_ 3 _ rfl; refine bq ?_; refine blk_put (cs := #[.int .i64 ((rd_T28 l0 x11_1).f0), .int .i64 ((rd_T28 l0 x11_1).f1), .int .i64 0, .int .i64 0, .int .i64 0, .string (⟨#[]⟩ : ByteArray)]) ?_ 2 _ rfl; refine bq ?_; refine blk_put (cs := #[.int .i64 ((rd_T28 l0 x11_1).f0), .int .i64 0, .int .i64 0, .int .i64 0, .int .i64 0, .string (⟨#[]⟩ : ByteArray)]) ?_ 1 _ rfl; refine bq ?_; refine blk_put (cs := #[.int .i64 0, .int .i64 0, .int .i64 0, .int .i64 0, .int .i64 0, .string (⟨#[]⟩ : ByteArray)]) ?_ 0 _ rfl; exact bq BK102.out) hb); replace HB := Aside0.mk (below_step (qS1 GE102 HB.out) hb); (try clear hb); (try clear hb2); (try clear hk); (try clear hi); obtain ⟨hcz59_0, hcz59_1, hcz59_2, hcz59_3, hcz59_4, hcz59_5, hfz59_0, hfz59_1, hfz59_2, hfz59_3, hfz59_4, hfz59_5⟩ := blk6 BK102.out) | ((with_reducible refine gate_callee (f := 36) rfl ?_); refine goesL_ (some 21) rfl rfl Try.func36 (by kernel_rfl) rfl #[.int .i64 ((rd_T28 l0 x11_1).f0)] rfl qq0 ?_; (with_reducible refine (wire_number.calls ((rd_T28 l0 x11_1).f0) t104 _ A7.out).mono ?_); rintro e w60 ⟨v105, rfl, ho0, hb⟩; refine ⟨_, rfl, ?_⟩; have HO106 := Aside0.mk (Kd.R_lower (Kd.R_new' ho0 (Kd.R_lt (qR HO_4.out))) (below_size (qS1 GE102 HB.out))); replace HO_4 := Aside0.mk (Kd.R_elder' (qR HO_4.out) (Kd.R_base ho0) hb); replace BK102 := Aside0.mk (blk_below (bq BK102.out) hb); replace HB := Aside0.mk (below_step (qS1 GE102 HB.out) hb); (try clear hb); (try clear hb2); (try clear hk); (try clear hi); (try clear ho0); obtain ⟨Ao62, co62, eo62⟩ := Kd.R_slice HO106.out; subst eo62) | ((with_reducible refine gate_builtin (b := .append) (xs := #[.tmp 18, .tmp 21]) rfl ?_); at_builtin; refine Kd.R_append_rows (Kd.int .u8) (w0 := w) w.heap.size rfl (.tmp 18) (.tmp 21) 39 5 (.int .u8 0) 1 rfl Try.underlying39 info5 rfl (by decide) (by omega) u4 x4_1 t104 _ _ _ (fun k_ => some k_ ≠ (.slice Ao62 t104.length co62 : Value).ownBlock) (fun _ => False) rfl rfl ?aO ?aR (fun _ _ h => h) (fun _ h => h.elim) ?aF ?aB ?aS ?aL ?_; (case aR => repeat (first | exact (Kd.R_reads' HO106.out).2.2 | (with_reducible refine Kd.C_alloc ?_ _) | (with_reducible refine Kd.C_drewN ?_ _) | (with_reducible refine Kd.C_drew ?_))); (case aB => exact qq16); (case aF => exact qqm); (case aO => exact qqs); (case aS => exact qqx); (case aL => have := LMc8.out; omega); intro v108 w61 ho hb hg hat; rw [← Ny107.out] at ho; replace BK102 := Aside0.mk (blk_grown (bq BK102.out) hg (Kd.R_ne HO_4.out BK102.out (by decide))); replace HO106 := Aside0.mk (Kd.R_after (ok := (fun _ => True)) (qR HO106.out) hg hat); replace HB := Aside0.mk (hb); have HO109 := Aside0.mk (ho); clear HO_4; clear ho hb hg hat; obtain ⟨hcz63_0, hcz63_1, hcz63_2, hcz63_3, hcz63_4, hcz63_5, hfz63_0, hfz63_1, hfz63_2, hfz63_3, hfz63_4, hfz63_5⟩ := blk6 BK102.out) | ((with_reducible refine gate_builtin (b := .append) (xs := #[.tmp 62, .tmp 66]) rfl ?_); at_builtin; refine Kd.R_append (Kd.int .u8) (w0 := w) w.heap.size rfl (.tmp 62) (.tmp 66) 39 5 (.int .u8 0) 1 rfl Try.underlying39 info5 rfl (by decide) (by omega) v108 y107 (((rd_T28 l0 x11_1).f3) % 256) [.int .u8 (((rd_T28 l0 x11_1).f3) % 256)] (fun k_ => some k_ ≠ (.slice Ao62 t104.length co62 : Value).ownBlock) (fun _ => False) rfl rfl ?aP (fun _ hk => hk.elim) ?aF ?aO ?aB ?aS ?aL ?_; (case aP => exact rfl); (case aB => exact qq16); (case aF => exact qqm); (case aO => exact (qR HO109.out)); (case aS => exact qqx); (case aL => have := LMc53.out; omega); intro v138 w64 ho hb hg hat; rw [← Ny137.out] at ho; replace BK102 := Aside0.mk (blk_grown (bq BK102.out) hg (Kd.R_ne HO109.out BK102.out (by decide))); replace HO106 := Aside0.mk (Kd.R_after (ok := (fun _ => True)) (qR HO106.out) hg hat); replace HB := Aside0.mk (hb); have HO139 := Aside0.mk (ho); clear HO109; clear ho hb hg hat; obtain ⟨hcz65_0, hcz65_1, hcz65_2, hcz65_3, hcz65_4, hcz65_5, hfz65_0, hfz65_1, hfz65_2, hfz65_3, hfz65_4, hfz65_5⟩ := blk6 BK102.out) | ((with_reducible refine gate_callee (f := 37) rfl ?_); refine goesL_ (some 70) rfl rfl Try.func37 (by kernel_rfl) rfl #[.int .i64 ((rd_T28 l0 x11_1).f1)] rfl qq0 ?_; (with_reducible refine (wire_one.calls ((rd_T28 l0 x11_1).f1) true _ A54.out).mono ?_); rintro e w' ⟨rfl, ⟨nd, rfl⟩⟩; refine ⟨_, rfl, ?_⟩))
          go_roundg k1
          case measure => have := HK1.out; omega
          case rel => exact ⟨(y137), (wrap64 ((wrap64 (16 * ((rd_T28 l0 x11_1).f1))) + ((rd_T28 l0 x11_1).f2))), (wrap64 (x11_1 + 1)), qq8, qq8, H', ⟨qq18⟩, ⟨qR (Kd.R_mono HO139.out (fun _ hk => trivial))⟩, ⟨qS1 GE102 HB.out⟩⟩
        replace c55 := Bool.eq_false_iff.mpr c55
        subst c55
        have H1 : (if y137.length < 140737488355328 then (wire_Encode.l0 k1 (y137 ++ [((rd_T28 l0 x11_1).f4) % 256]) (wrap64 ((wrap64 (16 * ((rd_T28 l0 x11_1).f1))) + ((rd_T28 l0 x11_1).f2))) l0 (l0.length : Int) (wrap64 (x11_1 + 1))) else (none)) = some (r1, r2) := by rw [if_neg (show ¬ (false = true) by decide)] at H; exact H
        clear H
        have H := H1
        clear H1
        by_cases c66 : y137.length < 140737488355328
        rotate_left
        · rw [if_neg c66] at H
          exact absurd H (by simp)
        rw [if_pos c66] at H
        have LMc66 := Aside0.mk c66
        clear c66
        obtain ⟨y141, hy141⟩ : ∃ y_ : List Int, y_ = (y137 ++ [((rd_T28 l0 x11_1).f4) % 256]) := ⟨_, rfl⟩
        replace H : (wire_Encode.l0 k1 y141 (wrap64 ((wrap64 (16 * ((rd_T28 l0 x11_1).f1))) + ((rd_T28 l0 x11_1).f2))) l0 (l0.length : Int) (wrap64 (x11_1 + 1))) = some (r1, r2) := by first | (rw [hy141]; with_reducible exact H) | (have H2_ := (Option.bind_some _ _).symm.trans H; rw [hy141]; with_reducible exact H2_) | (have H2_ := (Option.bind_some _ _).symm.trans H; with_reducible exact H2_) | with_reducible exact H | (rw [hy141]; exact H) | exact H
        have Ny141 := Aside0.mk hy141
        clear hy141
        have H' := Aside0.mk H
        clear H
        have p101 : 0 ≤ (x11_1 : Int) := of_decide_eq_true qq4
        have q101 : x11_1 < (l0.length : Int) := of_decide_eq_true qq4
        obtain ⟨ad101, e101, hx101_0, hx101_1, hx101_2, hx101_3, hx101_4, hx101_5⟩ := at_T28 HR0.out x11_1 p101 q101
        cases e101
        replace hx101_0 := (HB.out.cell (World.block_lt_of_cell? w _ hx101_0)).trans hx101_0
        replace hx101_1 := (HB.out.cell (World.block_lt_of_cell? w _ hx101_1)).trans hx101_1
        replace hx101_2 := (HB.out.cell (World.block_lt_of_cell? w _ hx101_2)).trans hx101_2
        replace hx101_3 := (HB.out.cell (World.block_lt_of_cell? w _ hx101_3)).trans hx101_3
        replace hx101_4 := (HB.out.cell (World.block_lt_of_cell? w _ hx101_4)).trans hx101_4
        replace hx101_5 := (HB.out.cell (World.block_lt_of_cell? w _ hx101_5)).trans hx101_5
        replace p101 := eq_true p101
        replace q101 := eq_true q101
        go_wp2_with (first | ((with_reducible refine gate_dst (N := 7) rfl ?_); refine box_event ?hg (N := 7) ?hd (cs := #[.int .i64 0, .int .i64 0, .int .i64 0, .int .i64 0, .int .i64 0, .string (⟨#[]⟩ : ByteArray)]) (t := 28) ?hr ?_; (case hd => rfl); (case hg => rfl); (case hr => exact qq6); intro gb102 hg w67 hbox hb; replace HO_4 := Aside0.mk (Kd.R_below (qR HO_4.out) hb); have BK102 := Aside0.mk (hbox); have GW102 := Aside0.mk ((qq9 : w.heap.size ≤ gb102)); have GE102 := Aside0.mk ((qq9 : w.heap.size ≤ gb102)); replace HB := Aside0.mk (below_step (qB HB.out) hb); clear hb hbox hg; obtain ⟨hcz68_0, hcz68_1, hcz68_2, hcz68_3, hcz68_4, hcz68_5, hfz68_0, hfz68_1, hfz68_2, hfz68_3, hfz68_4, hfz68_5⟩ := blk6 BK102.out) | ((with_reducible refine gate_callee (f := 35) rfl ?_); refine goesL_ (some 16) rfl rfl Try.func35 (by kernel_rfl) rfl #[.agg #[.int .i64 ((rd_T28 l0 x11_1).f0), .int .i64 ((rd_T28 l0 x11_1).f1), .int .i64 ((rd_T28 l0 x11_1).f2), .int .i64 ((rd_T28 l0 x11_1).f3), .int .i64 ((rd_T28 l0 x11_1).f4), .string ((rd_T28 l0 x11_1).f5)]] rfl qq0 ?_; (with_reducible refine (wire_Right.calls k1 ((rd_T28 l0 x11_1).f0) ((rd_T28 l0 x11_1).f1) ((rd_T28 l0 x11_1).f2) ((rd_T28 l0 x11_1).f3) ((rd_T28 l0 x11_1).f4) ((rd_T28 l0 x11_1).f5) true _ A5.out).mono ?_); rintro e w69 ⟨rfl, hb⟩; refine ⟨_, rfl, ?_⟩; replace HO_4 := Aside0.mk (Kd.R_below qq7 hb); replace BK102 := Aside0.mk (blk_below (g := gb102) (o := .cells #[.int .i64 ((rd_T28 l0 x11_1).f0), .int .i64 ((rd_T28 l0 x11_1).f1), .int .i64 ((rd_T28 l0 x11_1).f2), .int .i64 ((rd_T28 l0 x11_1).f3), .int .i64 ((rd_T28 l0 x11_1).f4), .string ((rd_T28 l0 x11_1).f5)] 28 (0, 0)) (by refine bq ?_; refine blk_put (cs := #[.int .i64 ((rd_T28 l0 x11_1).f0), .int .i64 ((rd_T28 l0 x11_1).f1), .int .i64 ((rd_T28 l0 x11_1).f2), .int .i64 ((rd_T28 l0 x11_1).f3), .int .i64 ((rd_T28 l0 x11_1).f4), .string (⟨#[]⟩ : ByteArray)]) ?_ 5 _ rfl; refine bq ?_; refine blk_put (cs := #[.int .i64 ((rd_T28 l0 x11_1).f0), .int .i64 ((rd_T28 l0 x11_1).f1), .int .i64 ((rd_T28 l0 x11_1).f2), .int .i64 ((rd_T28 l0 x11_1).f3), .int .i64 0, .string (⟨#[]⟩ : ByteArray)]) ?_ 4 _ rfl; refine bq ?_; refine blk_put (cs := #[.int .i64 ((rd_T28 l0 x11_1).f0), .int .i64 ((rd_T28 l0 x11_1).f1), .int .i64 ((rd_T28 l0 x11_1).f2), .int .i64 0, .int .i64 0, .string (⟨#[]⟩ : ByteArray)]) ?_ 3 _ rfl; refine bq ?_; refine blk_put (cs := #[.int .i64 ((rd_T28 l0 x11_1).f0), .int .i64 ((rd_T28 l0 x11_1).f1), .int .i64 0, .int .i64 0, .int .i64 0, .string (⟨#[]⟩ : ByteArray)]) ?_ 2 _ rfl; refine bq ?_; refine blk_put (cs := #[.int .i64 ((rd_T28 l0 x11_1).f0), .int .i64 0, .int .i64 0, .int .i64 0, .int .i64 0, .string (⟨#[]⟩ : ByteArray)]) ?_ 1 _ rfl; refine bq ?_; refine blk_put (cs := #[.int .i64 0, .int .i64 0, .int .i64 0, .int .i64 0, .int .i64 0, .string (⟨#[]⟩ : ByteArray)]) ?_ 0 _ rfl; exact bq BK102.out) hb); replace HB := Aside0.mk (below_step (qS1 GE102 HB.out) hb); (try clear hb); (try clear hb2); (try clear hk); (try clear hi); obtain ⟨hcz70_0, hcz70_1, hcz70_2, hcz70_3, hcz70_4, hcz70_5, hfz70_0, hfz70_1, hfz70_2, hfz70_3, hfz70_4, hfz70_5⟩ := blk6 BK102.out) | ((with_reducible refine gate_callee (f := 36) rfl ?_); refine goesL_ (some 21) rfl rfl Try.func36 (by kernel_rfl) rfl #[.int .i64 ((rd_T28 l0 x11_1).f0)] rfl qq0 ?_; (with_reducible refine (wire_number.calls ((rd_T28 l0 x11_1).f0) t104 _ A7.out).mono ?_); rintro e w71 ⟨v105, rfl, ho0, hb⟩; refine ⟨_, rfl, ?_⟩; have HO106 := Aside0.mk (Kd.R_lower (Kd.R_new' ho0 (Kd.R_lt (qR HO_4.out))) (below_size (qS1 GE102 HB.out))); replace HO_4 := Aside0.mk (Kd.R_elder' (qR HO_4.out) (Kd.R_base ho0) hb); replace BK102 := Aside0.mk (blk_below (bq BK102.out) hb); replace HB := Aside0.mk (below_step (qS1 GE102 HB.out) hb); (try clear hb); (try clear hb2); (try clear hk); (try clear hi); (try clear ho0); obtain ⟨Ao73, co73, eo73⟩ := Kd.R_slice HO106.out; subst eo73) | ((with_reducible refine gate_builtin (b := .append) (xs := #[.tmp 18, .tmp 21]) rfl ?_); at_builtin; refine Kd.R_append_rows (Kd.int .u8) (w0 := w) w.heap.size rfl (.tmp 18) (.tmp 21) 39 5 (.int .u8 0) 1 rfl Try.underlying39 info5 rfl (by decide) (by omega) u4 x4_1 t104 _ _ _ (fun k_ => some k_ ≠ (.slice Ao73 t104.length co73 : Value).ownBlock) (fun _ => False) rfl rfl ?aO ?aR (fun _ _ h => h) (fun _ h => h.elim) ?aF ?aB ?aS ?aL ?_; (case aR => repeat (first | exact (Kd.R_reads' HO106.out).2.2 | (with_reducible refine Kd.C_alloc ?_ _) | (with_reducible refine Kd.C_drewN ?_ _) | (with_reducible refine Kd.C_drew ?_))); (case aB => exact qq16); (case aF => exact qqm); (case aO => exact qqs); (case aS => exact qqx); (case aL => have := LMc8.out; omega); intro v108 w72 ho hb hg hat; rw [← Ny107.out] at ho; replace BK102 := Aside0.mk (blk_grown (bq BK102.out) hg (Kd.R_ne HO_4.out BK102.out (by decide))); replace HO106 := Aside0.mk (Kd.R_after (ok := (fun _ => True)) (qR HO106.out) hg hat); replace HB := Aside0.mk (hb); have HO109 := Aside0.mk (ho); clear HO_4; clear ho hb hg hat; obtain ⟨hcz74_0, hcz74_1, hcz74_2, hcz74_3, hcz74_4, hcz74_5, hfz74_0, hfz74_1, hfz74_2, hfz74_3, hfz74_4, hfz74_5⟩ := blk6 BK102.out) | ((with_reducible refine gate_builtin (b := .append) (xs := #[.tmp 62, .tmp 66]) rfl ?_); at_builtin; refine Kd.R_append (Kd.int .u8) (w0 := w) w.heap.size rfl (.tmp 62) (.tmp 66) 39 5 (.int .u8 0) 1 rfl Try.underlying39 info5 rfl (by decide) (by omega) v108 y107 (((rd_T28 l0 x11_1).f3) % 256) [.int .u8 (((rd_T28 l0 x11_1).f3) % 256)] (fun k_ => some k_ ≠ (.slice Ao73 t104.length co73 : Value).ownBlock) (fun _ => False) rfl rfl ?aP (fun _ hk => hk.elim) ?aF ?aO ?aB ?aS ?aL ?_; (case aP => exact rfl); (case aB => exact qq16); (case aF => exact qqm); (case aO => exact (qR HO109.out)); (case aS => exact qqx); (case aL => have := LMc53.out; omega); intro v138 w75 ho hb hg hat; rw [← Ny137.out] at ho; replace BK102 := Aside0.mk (blk_grown (bq BK102.out) hg (Kd.R_ne HO109.out BK102.out (by decide))); replace HO106 := Aside0.mk (Kd.R_after (ok := (fun _ => True)) (qR HO106.out) hg hat); replace HB := Aside0.mk (hb); have HO139 := Aside0.mk (ho); clear HO109; clear ho hb hg hat; obtain ⟨hcz76_0, hcz76_1, hcz76_2, hcz76_3, hcz76_4, hcz76_5, hfz76_0, hfz76_1, hfz76_2, hfz76_3, hfz76_4, hfz76_5⟩ := blk6 BK102.out) | ((with_reducible refine gate_callee (f := 37) rfl ?_); refine goesL_ (some 70) rfl rfl Try.func37 (by kernel_rfl) rfl #[.int .i64 ((rd_T28 l0 x11_1).f1)] rfl qq0 ?_; (with_reducible refine (wire_one.calls ((rd_T28 l0 x11_1).f1) false _ A54.out).mono ?_); rintro e w' ⟨rfl, ⟨nd, rfl⟩⟩; refine ⟨_, rfl, ?_⟩) | ((with_reducible refine gate_builtin (b := .append) (xs := #[.tmp 72, .tmp 76]) rfl ?_); at_builtin; refine Kd.R_append (Kd.int .u8) (w0 := w) w.heap.size rfl (.tmp 72) (.tmp 76) 39 5 (.int .u8 0) 1 rfl Try.underlying39 info5 rfl (by decide) (by omega) v138 y137 (((rd_T28 l0 x11_1).f4) % 256) [.int .u8 (((rd_T28 l0 x11_1).f4) % 256)] (fun k_ => some k_ ≠ (.slice Ao73 t104.length co73 : Value).ownBlock) (fun _ => False) rfl rfl ?aP (fun _ hk => hk.elim) ?aF ?aO ?aB ?aS ?aL ?_; (case aP => exact rfl); (case aB => exact qq16); (case aF => exact qqm); (case aO => exact (qR HO139.out)); (case aS => exact qqx); (case aL => have := LMc66.out; omega); intro v142 w77 ho hb hg hat; rw [← Ny141.out] at ho; replace BK102 := Aside0.mk (blk_grown (bq BK102.out) hg (Kd.R_ne HO139.out BK102.out (by decide))); replace HO106 := Aside0.mk (Kd.R_after (ok := (fun _ => True)) (qR HO106.out) hg hat); replace HB := Aside0.mk (hb); have HO143 := Aside0.mk (ho); clear HO139; clear ho hb hg hat))
        go_roundg k1
        case measure => have := HK1.out; omega
        case rel => exact ⟨(y141), (wrap64 ((wrap64 (16 * ((rd_T28 l0 x11_1).f1))) + ((rd_T28 l0 x11_1).f2))), (wrap64 (x11_1 + 1)), qq8, qq8, H', ⟨qq18⟩, ⟨qR (Kd.R_mono HO143.out (fun _ hk => trivial))⟩, ⟨qS1 GE102 HB.out⟩⟩
      rw [if_neg c52] at H
      have c52b0 : ((wrap64 ((wrap64 (16 * ((rd_T28 l0 x11_1).f1))) + ((rd_T28 l0 x11_1).f2))) == x5_1) = false := beq_eq_false_iff_ne.mpr c52
      have c52b1 : ((wrap64 ((wrap64 (16 * ((rd_T28 l0 x11_1).f1))) + ((rd_T28 l0 x11_1).f2))) != x5_1) = true := bne_iff_ne.mpr c52
      by_cases c78 : y107.length < 140737488355328
      rotate_left
      · rw [if_neg c78] at H
        exact absurd H (by simp)
      rw [if_pos c78] at H
      have LMc78 := Aside0.mk c78
      clear c78
      obtain ⟨y144, hy144⟩ : ∃ y_ : List Int, y_ = (y107 ++ [(wrap64 ((wrap64 (16 * ((rd_T28 l0 x11_1).f1))) + ((rd_T28 l0 x11_1).f2))) % 256]) := ⟨_, rfl⟩
      replace H : (if y144.length < 140737488355328 then ((some (y144 ++ [((rd_T28 l0 x11_1).f3) % 256] : List Int)).bind fun y147 => ((wire_one.f ((rd_T28 l0 x11_1).f1)).bind fun t150 => (if t150 = true then (wire_Encode.l0 k1 y147 (wrap64 ((wrap64 (16 * ((rd_T28 l0 x11_1).f1))) + ((rd_T28 l0 x11_1).f2))) l0 (l0.length : Int) (wrap64 (x11_1 + 1))) else (if y147.length < 140737488355328 then (wire_Encode.l0 k1 (y147 ++ [((rd_T28 l0 x11_1).f4) % 256]) (wrap64 ((wrap64 (16 * ((rd_T28 l0 x11_1).f1))) + ((rd_T28 l0 x11_1).f2))) l0 (l0.length : Int) (wrap64 (x11_1 + 1))) else (none))))) else (none)) = some (r1, r2) := by first | (rw [hy144]; with_reducible exact H) | (have H2_ := (Option.bind_some _ _).symm.trans H; rw [hy144]; with_reducible exact H2_) | (have H2_ := (Option.bind_some _ _).symm.trans H; with_reducible exact H2_) | with_reducible exact H | (rw [hy144]; exact H) | exact H
      have Ny144 := Aside0.mk hy144
      clear hy144
      by_cases c79 : y144.length < 140737488355328
      rotate_left
      · rw [if_neg c79] at H
        exact absurd H (by simp)
      rw [if_pos c79] at H
      have LMc79 := Aside0.mk c79
      clear c79
      obtain ⟨y147, hy147⟩ : ∃ y_ : List Int, y_ = (y144 ++ [((rd_T28 l0 x11_1).f3) % 256]) := ⟨_, rfl⟩
      replace H : ((wire_one.f ((rd_T28 l0 x11_1).f1)).bind fun t150 => (if t150 = true then (wire_Encode.l0 k1 y147 (wrap64 ((wrap64 (16 * ((rd_T28 l0 x11_1).f1))) + ((rd_T28 l0 x11_1).f2))) l0 (l0.length : Int) (wrap64 (x11_1 + 1))) else (if y147.length < 140737488355328 then (wire_Encode.l0 k1 (y147 ++ [((rd_T28 l0 x11_1).f4) % 256]) (wrap64 ((wrap64 (16 * ((rd_T28 l0 x11_1).f1))) + ((rd_T28 l0 x11_1).f2))) l0 (l0.length : Int) (wrap64 (x11_1 + 1))) else (none)))) = some (r1, r2) := by first | (rw [hy147]; with_reducible exact H) | (have H2_ := (Option.bind_some _ _).symm.trans H; rw [hy147]; with_reducible exact H2_) | (have H2_ := (Option.bind_some _ _).symm.trans H; with_reducible exact H2_) | with_reducible exact H | (rw [hy147]; exact H) | exact H
      have Ny147 := Aside0.mk hy147
      clear hy147
      replace H := Option.bind_eq_some_iff.mp H
      obtain ⟨t150, A800, H⟩ := H
      try dsimp -simprocs only at H
      have A80 := Aside0.mk A800
      clear A800
      by_cases c81 : t150 = true
      · subst c81
        have H1 : (wire_Encode.l0 k1 y147 (wrap64 ((wrap64 (16 * ((rd_T28 l0 x11_1).f1))) + ((rd_T28 l0 x11_1).f2))) l0 (l0.length : Int) (wrap64 (x11_1 + 1))) = some (r1, r2) := by rw [if_pos rfl] at H; exact H
        clear H
        have H := H1
        clear H1
        have H' := Aside0.mk H
        clear H
        have p101 : 0 ≤ (x11_1 : Int) := of_decide_eq_true qq4
        have q101 : x11_1 < (l0.length : Int) := of_decide_eq_true qq4
        obtain ⟨ad101, e101, hx101_0, hx101_1, hx101_2, hx101_3, hx101_4, hx101_5⟩ := at_T28 HR0.out x11_1 p101 q101
        cases e101
        replace hx101_0 := (HB.out.cell (World.block_lt_of_cell? w _ hx101_0)).trans hx101_0
        replace hx101_1 := (HB.out.cell (World.block_lt_of_cell? w _ hx101_1)).trans hx101_1
        replace hx101_2 := (HB.out.cell (World.block_lt_of_cell? w _ hx101_2)).trans hx101_2
        replace hx101_3 := (HB.out.cell (World.block_lt_of_cell? w _ hx101_3)).trans hx101_3
        replace hx101_4 := (HB.out.cell (World.block_lt_of_cell? w _ hx101_4)).trans hx101_4
        replace hx101_5 := (HB.out.cell (World.block_lt_of_cell? w _ hx101_5)).trans hx101_5
        replace p101 := eq_true p101
        replace q101 := eq_true q101
        go_wp2_with (first | ((with_reducible refine gate_dst (N := 7) rfl ?_); refine box_event ?hg (N := 7) ?hd (cs := #[.int .i64 0, .int .i64 0, .int .i64 0, .int .i64 0, .int .i64 0, .string (⟨#[]⟩ : ByteArray)]) (t := 28) ?hr ?_; (case hd => rfl); (case hg => rfl); (case hr => exact qq6); intro gb102 hg w82 hbox hb; replace HO_4 := Aside0.mk (Kd.R_below (qR HO_4.out) hb); have BK102 := Aside0.mk (hbox); have GW102 := Aside0.mk ((qq9 : w.heap.size ≤ gb102)); have GE102 := Aside0.mk ((qq9 : w.heap.size ≤ gb102)); replace HB := Aside0.mk (below_step (qB HB.out) hb); clear hb hbox hg; obtain ⟨hcz83_0, hcz83_1, hcz83_2, hcz83_3, hcz83_4, hcz83_5, hfz83_0, hfz83_1, hfz83_2, hfz83_3, hfz83_4, hfz83_5⟩ := blk6 BK102.out) | ((with_reducible refine gate_callee (f := 35) rfl ?_); refine goesL_ (some 16) rfl rfl Try.func35 (by kernel_rfl) rfl #[.agg #[.int .i64 ((rd_T28 l0 x11_1).f0), .int .i64 ((rd_T28 l0 x11_1).f1), .int .i64 ((rd_T28 l0 x11_1).f2), .int .i64 ((rd_T28 l0 x11_1).f3), .int .i64 ((rd_T28 l0 x11_1).f4), .string ((rd_T28 l0 x11_1).f5)]] rfl qq0 ?_; (with_reducible refine (wire_Right.calls k1 ((rd_T28 l0 x11_1).f0) ((rd_T28 l0 x11_1).f1) ((rd_T28 l0 x11_1).f2) ((rd_T28 l0 x11_1).f3) ((rd_T28 l0 x11_1).f4) ((rd_T28 l0 x11_1).f5) true _ A5.out).mono ?_); rintro e w84 ⟨rfl, hb⟩; refine ⟨_, rfl, ?_⟩; replace HO_4 := Aside0.mk (Kd.R_below qq7 hb); replace BK102 := Aside0.mk (blk_below (g := gb102) (o := .cells #[.int .i64 ((rd_T28 l0 x11_1).f0), .int .i64 ((rd_T28 l0 x11_1).f1), .int .i64 ((rd_T28 l0 x11_1).f2), .int .i64 ((rd_T28 l0 x11_1).f3), .int .i64 ((rd_T28 l0 x11_1).f4), .string ((rd_T28 l0 x11_1).f5)] 28 (0, 0)) (by refine bq ?_; refine blk_put (cs := #[.int .i64 ((rd_T28 l0 x11_1).f0), .int .i64 ((rd_T28 l0 x11_1).f1), .int .i64 ((rd_T28 l0 x11_1).f2), .int .i64 ((rd_T28 l0 x11_1).f3), .int .i64 ((rd_T28 l0 x11_1).f4), .string (⟨#[]⟩ : ByteArray)]) ?_ 5 _ rfl; refine bq ?_; refine blk_put (cs := #[.int .i64 ((rd_T28 l0 x11_1).f0), .int .i64 ((rd_T28 l0 x11_1).f1), .int .i64 ((rd_T28 l0 x11_1).f2), .int .i64 ((rd_T28 l0 x11_1).f3), .int .i64 0, .string (⟨#[]⟩ : ByteArray)]) ?_ 4 _ rfl; refine bq ?_; refine blk_put (cs := #[.int .i64 ((rd_T28 l0 x11_1).f0), .int .i64 ((rd_T28 l0 x11_1).f1), .int .i64 ((rd_T28 l0 x11_1).f2), .int .i64 0, .int .i64 0, .string (⟨#[]⟩ : ByteArray)]) ?_ 3 _ rfl; refine bq ?_; refine blk_put (cs := #[.int .i64 ((rd_T28 l0 x11_1).f0), .int .i64 ((rd_T28 l0 x11_1).f1), .int .i64 0, .int .i64 0, .int .i64 0, .string (⟨#[]⟩ : ByteArray)]) ?_ 2 _ rfl; refine bq ?_; refine blk_put (cs := #[.int .i64 ((rd_T28 l0 x11_1).f0), .int .i64 0, .int .i64 0, .int .i64 0, .int .i64 0, .string (⟨#[]⟩ : ByteArray)]) ?_ 1 _ rfl; refine bq ?_; refine blk_put (cs := #[.int .i64 0, .int .i64 0, .int .i64 0, .int .i64 0, .int .i64 0, .string (⟨#[]⟩ : ByteArray)]) ?_ 0 _ rfl; exact bq BK102.out) hb); replace HB := Aside0.mk (below_step (qS1 GE102 HB.out) hb); (try clear hb); (try clear hb2); (try clear hk); (try clear hi); obtain ⟨hcz85_0, hcz85_1, hcz85_2, hcz85_3, hcz85_4, hcz85_5, hfz85_0, hfz85_1, hfz85_2, hfz85_3, hfz85_4, hfz85_5⟩ := blk6 BK102.out) | ((with_reducible refine gate_callee (f := 36) rfl ?_); refine goesL_ (some 21) rfl rfl Try.func36 (by kernel_rfl) rfl #[.int .i64 ((rd_T28 l0 x11_1).f0)] rfl qq0 ?_; (with_reducible refine (wire_number.calls ((rd_T28 l0 x11_1).f0) t104 _ A7.out).mono ?_); rintro e w86 ⟨v105, rfl, ho0, hb⟩; refine ⟨_, rfl, ?_⟩; have HO106 := Aside0.mk (Kd.R_lower (Kd.R_new' ho0 (Kd.R_lt (qR HO_4.out))) (below_size (qS1 GE102 HB.out))); replace HO_4 := Aside0.mk (Kd.R_elder' (qR HO_4.out) (Kd.R_base ho0) hb); replace BK102 := Aside0.mk (blk_below (bq BK102.out) hb); replace HB := Aside0.mk (below_step (qS1 GE102 HB.out) hb); (try clear hb); (try clear hb2); (try clear hk); (try clear hi); (try clear ho0); obtain ⟨Ao88, co88, eo88⟩ := Kd.R_slice HO106.out; subst eo88) | ((with_reducible refine gate_builtin (b := .append) (xs := #[.tmp 18, .tmp 21]) rfl ?_); at_builtin; refine Kd.R_append_rows (Kd.int .u8) (w0 := w) w.heap.size rfl (.tmp 18) (.tmp 21) 39 5 (.int .u8 0) 1 rfl Try.underlying39 info5 rfl (by decide) (by omega) u4 x4_1 t104 _ _ _ (fun k_ => some k_ ≠ (.slice Ao88 t104.length co88 : Value).ownBlock) (fun _ => False) rfl rfl ?aO ?aR (fun _ _ h => h) (fun _ h => h.elim) ?aF ?aB ?aS ?aL ?_; (case aR => repeat (first | exact (Kd.R_reads' HO106.out).2.2 | (with_reducible refine Kd.C_alloc ?_ _) | (with_reducible refine Kd.C_drewN ?_ _) | (with_reducible refine Kd.C_drew ?_))); (case aB => exact qq16); (case aF => exact qqm); (case aO => exact qqs); (case aS => exact qqx); (case aL => have := LMc8.out; omega); intro v108 w87 ho hb hg hat; rw [← Ny107.out] at ho; replace BK102 := Aside0.mk (blk_grown (bq BK102.out) hg (Kd.R_ne HO_4.out BK102.out (by decide))); replace HO106 := Aside0.mk (Kd.R_after (ok := (fun _ => True)) (qR HO106.out) hg hat); replace HB := Aside0.mk (hb); have HO109 := Aside0.mk (ho); clear HO_4; clear ho hb hg hat; obtain ⟨hcz89_0, hcz89_1, hcz89_2, hcz89_3, hcz89_4, hcz89_5, hfz89_0, hfz89_1, hfz89_2, hfz89_3, hfz89_4, hfz89_5⟩ := blk6 BK102.out) | ((with_reducible refine gate_builtin (b := .append) (xs := #[.tmp 57, .tmp 60]) rfl ?_); at_builtin; refine Kd.R_append (Kd.int .u8) (w0 := w) w.heap.size rfl (.tmp 57) (.tmp 60) 39 5 (.int .u8 0) 1 rfl Try.underlying39 info5 rfl (by decide) (by omega) v108 y107 ((wrap64 ((wrap64 (16 * ((rd_T28 l0 x11_1).f1))) + ((rd_T28 l0 x11_1).f2))) % 256) [.int .u8 ((wrap64 ((wrap64 (16 * ((rd_T28 l0 x11_1).f1))) + ((rd_T28 l0 x11_1).f2))) % 256)] (fun k_ => some k_ ≠ (.slice Ao88 t104.length co88 : Value).ownBlock) (fun _ => False) rfl rfl ?aP (fun _ hk => hk.elim) ?aF ?aO ?aB ?aS ?aL ?_; (case aP => exact rfl); (case aB => exact qq16); (case aF => exact qqm); (case aO => exact (qR HO109.out)); (case aS => exact qqx); (case aL => have := LMc78.out; omega); intro v145 w90 ho hb hg hat; rw [← Ny144.out] at ho; replace BK102 := Aside0.mk (blk_grown (bq BK102.out) hg (Kd.R_ne HO109.out BK102.out (by decide))); replace HO106 := Aside0.mk (Kd.R_after (ok := (fun _ => True)) (qR HO106.out) hg hat); replace HB := Aside0.mk (hb); have HO146 := Aside0.mk (ho); clear HO109; clear ho hb hg hat; obtain ⟨hcz91_0, hcz91_1, hcz91_2, hcz91_3, hcz91_4, hcz91_5, hfz91_0, hfz91_1, hfz91_2, hfz91_3, hfz91_4, hfz91_5⟩ := blk6 BK102.out) | ((with_reducible refine gate_builtin (b := .append) (xs := #[.tmp 62, .tmp 66]) rfl ?_); at_builtin; refine Kd.R_append (Kd.int .u8) (w0 := w) w.heap.size rfl (.tmp 62) (.tmp 66) 39 5 (.int .u8 0) 1 rfl Try.underlying39 info5 rfl (by decide) (by omega) v145 y144 (((rd_T28 l0 x11_1).f3) % 256) [.int .u8 (((rd_T28 l0 x11_1).f3) % 256)] (fun k_ => some k_ ≠ (.slice Ao88 t104.length co88 : Value).ownBlock) (fun _ => False) rfl rfl ?aP (fun _ hk => hk.elim) ?aF ?aO ?aB ?aS ?aL ?_; (case aP => exact rfl); (case aB => exact qq16); (case aF => exact qqm); (case aO => exact (qR HO146.out)); (case aS => exact qqx); (case aL => have := LMc79.out; omega); intro v148 w92 ho hb hg hat; rw [← Ny147.out] at ho; replace BK102 := Aside0.mk (blk_grown (bq BK102.out) hg (Kd.R_ne HO146.out BK102.out (by decide))); replace HO106 := Aside0.mk (Kd.R_after (ok := (fun _ => True)) (qR HO106.out) hg hat); replace HB := Aside0.mk (hb); have HO149 := Aside0.mk (ho); clear HO146; clear ho hb hg hat; obtain ⟨hcz93_0, hcz93_1, hcz93_2, hcz93_3, hcz93_4, hcz93_5, hfz93_0, hfz93_1, hfz93_2, hfz93_3, hfz93_4, hfz93_5⟩ := blk6 BK102.out) | ((with_reducible refine gate_callee (f := 37) rfl ?_); refine goesL_ (some 70) rfl rfl Try.func37 (by kernel_rfl) rfl #[.int .i64 ((rd_T28 l0 x11_1).f1)] rfl qq0 ?_; (with_reducible refine (wire_one.calls ((rd_T28 l0 x11_1).f1) true _ A80.out).mono ?_); rintro e w' ⟨rfl, ⟨nd, rfl⟩⟩; refine ⟨_, rfl, ?_⟩))
        go_roundg k1
        case measure => have := HK1.out; omega
        case rel => exact ⟨(y147), (wrap64 ((wrap64 (16 * ((rd_T28 l0 x11_1).f1))) + ((rd_T28 l0 x11_1).f2))), (wrap64 (x11_1 + 1)), qq8, qq8, H', ⟨qq18⟩, ⟨qR (Kd.R_mono HO149.out (fun _ hk => trivial))⟩, ⟨qS1 GE102 HB.out⟩⟩
      replace c81 := Bool.eq_false_iff.mpr c81
      subst c81
      have H1 : (if y147.length < 140737488355328 then (wire_Encode.l0 k1 (y147 ++ [((rd_T28 l0 x11_1).f4) % 256]) (wrap64 ((wrap64 (16 * ((rd_T28 l0 x11_1).f1))) + ((rd_T28 l0 x11_1).f2))) l0 (l0.length : Int) (wrap64 (x11_1 + 1))) else (none)) = some (r1, r2) := by rw [if_neg (show ¬ (false = true) by decide)] at H; exact H
      clear H
      have H := H1
      clear H1
      by_cases c94 : y147.length < 140737488355328
      rotate_left
      · rw [if_neg c94] at H
        exact absurd H (by simp)
      rw [if_pos c94] at H
      have LMc94 := Aside0.mk c94
      clear c94
      obtain ⟨y151, hy151⟩ : ∃ y_ : List Int, y_ = (y147 ++ [((rd_T28 l0 x11_1).f4) % 256]) := ⟨_, rfl⟩
      replace H : (wire_Encode.l0 k1 y151 (wrap64 ((wrap64 (16 * ((rd_T28 l0 x11_1).f1))) + ((rd_T28 l0 x11_1).f2))) l0 (l0.length : Int) (wrap64 (x11_1 + 1))) = some (r1, r2) := by first | (rw [hy151]; with_reducible exact H) | (have H2_ := (Option.bind_some _ _).symm.trans H; rw [hy151]; with_reducible exact H2_) | (have H2_ := (Option.bind_some _ _).symm.trans H; with_reducible exact H2_) | with_reducible exact H | (rw [hy151]; exact H) | exact H
      have Ny151 := Aside0.mk hy151
      clear hy151
      have H' := Aside0.mk H
      clear H
      have p101 : 0 ≤ (x11_1 : Int) := of_decide_eq_true qq4
      have q101 : x11_1 < (l0.length : Int) := of_decide_eq_true qq4
      obtain ⟨ad101, e101, hx101_0, hx101_1, hx101_2, hx101_3, hx101_4, hx101_5⟩ := at_T28 HR0.out x11_1 p101 q101
      cases e101
      replace hx101_0 := (HB.out.cell (World.block_lt_of_cell? w _ hx101_0)).trans hx101_0
      replace hx101_1 := (HB.out.cell (World.block_lt_of_cell? w _ hx101_1)).trans hx101_1
      replace hx101_2 := (HB.out.cell (World.block_lt_of_cell? w _ hx101_2)).trans hx101_2
      replace hx101_3 := (HB.out.cell (World.block_lt_of_cell? w _ hx101_3)).trans hx101_3
      replace hx101_4 := (HB.out.cell (World.block_lt_of_cell? w _ hx101_4)).trans hx101_4
      replace hx101_5 := (HB.out.cell (World.block_lt_of_cell? w _ hx101_5)).trans hx101_5
      replace p101 := eq_true p101
      replace q101 := eq_true q101
      go_wp2_with (first | ((with_reducible refine gate_dst (N := 7) rfl ?_); refine box_event ?hg (N := 7) ?hd (cs := #[.int .i64 0, .int .i64 0, .int .i64 0, .int .i64 0, .int .i64 0, .string (⟨#[]⟩ : ByteArray)]) (t := 28) ?hr ?_; (case hd => rfl); (case hg => rfl); (case hr => exact qq6); intro gb102 hg w95 hbox hb; replace HO_4 := Aside0.mk (Kd.R_below (qR HO_4.out) hb); have BK102 := Aside0.mk (hbox); have GW102 := Aside0.mk ((qq9 : w.heap.size ≤ gb102)); have GE102 := Aside0.mk ((qq9 : w.heap.size ≤ gb102)); replace HB := Aside0.mk (below_step (qB HB.out) hb); clear hb hbox hg; obtain ⟨hcz96_0, hcz96_1, hcz96_2, hcz96_3, hcz96_4, hcz96_5, hfz96_0, hfz96_1, hfz96_2, hfz96_3, hfz96_4, hfz96_5⟩ := blk6 BK102.out) | ((with_reducible refine gate_callee (f := 35) rfl ?_); refine goesL_ (some 16) rfl rfl Try.func35 (by kernel_rfl) rfl #[.agg #[.int .i64 ((rd_T28 l0 x11_1).f0), .int .i64 ((rd_T28 l0 x11_1).f1), .int .i64 ((rd_T28 l0 x11_1).f2), .int .i64 ((rd_T28 l0 x11_1).f3), .int .i64 ((rd_T28 l0 x11_1).f4), .string ((rd_T28 l0 x11_1).f5)]] rfl qq0 ?_; (with_reducible refine (wire_Right.calls k1 ((rd_T28 l0 x11_1).f0) ((rd_T28 l0 x11_1).f1) ((rd_T28 l0 x11_1).f2) ((rd_T28 l0 x11_1).f3) ((rd_T28 l0 x11_1).f4) ((rd_T28 l0 x11_1).f5) true _ A5.out).mono ?_); rintro e w97 ⟨rfl, hb⟩; refine ⟨_, rfl, ?_⟩; replace HO_4 := Aside0.mk (Kd.R_below qq7 hb); replace BK102 := Aside0.mk (blk_below (g := gb102) (o := .cells #[.int .i64 ((rd_T28 l0 x11_1).f0), .int .i64 ((rd_T28 l0 x11_1).f1), .int .i64 ((rd_T28 l0 x11_1).f2), .int .i64 ((rd_T28 l0 x11_1).f3), .int .i64 ((rd_T28 l0 x11_1).f4), .string ((rd_T28 l0 x11_1).f5)] 28 (0, 0)) (by refine bq ?_; refine blk_put (cs := #[.int .i64 ((rd_T28 l0 x11_1).f0), .int .i64 ((rd_T28 l0 x11_1).f1), .int .i64 ((rd_T28 l0 x11_1).f2), .int .i64 ((rd_T28 l0 x11_1).f3), .int .i64 ((rd_T28 l0 x11_1).f4), .string (⟨#[]⟩ : ByteArray)]) ?_ 5 _ rfl; refine bq ?_; refine blk_put (cs := #[.int .i64 ((rd_T28 l0 x11_1).f0), .int .i64 ((rd_T28 l0 x11_1).f1), .int .i64 ((rd_T28 l0 x11_1).f2), .int .i64 ((rd_T28 l0 x11_1).f3), .int .i64 0, .string (⟨#[]⟩ : ByteArray)]) ?_ 4 _ rfl; refine bq ?_; refine blk_put (cs := #[.int .i64 ((rd_T28 l0 x11_1).f0), .int .i64 ((rd_T28 l0 x11_1).f1), .int .i64 ((rd_T28 l0 x11_1).f2), .int .i64 0, .int .i64 0, .string (⟨#[]⟩ : ByteArray)]) ?_ 3 _ rfl; refine bq ?_; refine blk_put (cs := #[.int .i64 ((rd_T28 l0 x11_1).f0), .int .i64 ((rd_T28 l0 x11_1).f1), .int .i64 0, .int .i64 0, .int .i64 0, .string (⟨#[]⟩ : ByteArray)]) ?_ 2 _ rfl; refine bq ?_; refine blk_put (cs := #[.int .i64 ((rd_T28 l0 x11_1).f0), .int .i64 0, .int .i64 0, .int .i64 0, .int .i64 0, .string (⟨#[]⟩ : ByteArray)]) ?_ 1 _ rfl; refine bq ?_; refine blk_put (cs := #[.int .i64 0, .int .i64 0, .int .i64 0, .int .i64 0, .int .i64 0, .string (⟨#[]⟩ : ByteArray)]) ?_ 0 _ rfl; exact bq BK102.out) hb); replace HB := Aside0.mk (below_step (qS1 GE102 HB.out) hb); (try clear hb); (try clear hb2); (try clear hk); (try clear hi); obtain ⟨hcz98_0, hcz98_1, hcz98_2, hcz98_3, hcz98_4, hcz98_5, hfz98_0, hfz98_1, hfz98_2, hfz98_3, hfz98_4, hfz98_5⟩ := blk6 BK102.out) | ((with_reducible refine gate_callee (f := 36) rfl ?_); refine goesL_ (some 21) rfl rfl Try.func36 (by kernel_rfl) rfl #[.int .i64 ((rd_T28 l0 x11_1).f0)] rfl qq0 ?_; (with_reducible refine (wire_number.calls ((rd_T28 l0 x11_1).f0) t104 _ A7.out).mono ?_); rintro e w99 ⟨v105, rfl, ho0, hb⟩; refine ⟨_, rfl, ?_⟩; have HO106 := Aside0.mk (Kd.R_lower (Kd.R_new' ho0 (Kd.R_lt (qR HO_4.out))) (below_size (qS1 GE102 HB.out))); replace HO_4 := Aside0.mk (Kd.R_elder' (qR HO_4.out) (Kd.R_base ho0) hb); replace BK102 := Aside0.mk (blk_below (bq BK102.out) hb); replace HB := Aside0.mk (below_step (qS1 GE102 HB.out) hb); (try clear hb); (try clear hb2); (try clear hk); (try clear hi); (try clear ho0); obtain ⟨Ao101, co101, eo101⟩ := Kd.R_slice HO106.out; subst eo101) | ((with_reducible refine gate_builtin (b := .append) (xs := #[.tmp 18, .tmp 21]) rfl ?_); at_builtin; refine Kd.R_append_rows (Kd.int .u8) (w0 := w) w.heap.size rfl (.tmp 18) (.tmp 21) 39 5 (.int .u8 0) 1 rfl Try.underlying39 info5 rfl (by decide) (by omega) u4 x4_1 t104 _ _ _ (fun k_ => some k_ ≠ (.slice Ao101 t104.length co101 : Value).ownBlock) (fun _ => False) rfl rfl ?aO ?aR (fun _ _ h => h) (fun _ h => h.elim) ?aF ?aB ?aS ?aL ?_; (case aR => repeat (first | exact (Kd.R_reads' HO106.out).2.2 | (with_reducible refine Kd.C_alloc ?_ _) | (with_reducible refine Kd.C_drewN ?_ _) | (with_reducible refine Kd.C_drew ?_))); (case aB => exact qq16); (case aF => exact qqm); (case aO => exact qqs); (case aS => exact qqx); (case aL => have := LMc8.out; omega); intro v108 w100 ho hb hg hat; rw [← Ny107.out] at ho; replace BK102 := Aside0.mk (blk_grown (bq BK102.out) hg (Kd.R_ne HO_4.out BK102.out (by decide))); replace HO106 := Aside0.mk (Kd.R_after (ok := (fun _ => True)) (qR HO106.out) hg hat); replace HB := Aside0.mk (hb); have HO109 := Aside0.mk (ho); clear HO_4; clear ho hb hg hat; obtain ⟨hcz102_0, hcz102_1, hcz102_2, hcz102_3, hcz102_4, hcz102_5, hfz102_0, hfz102_1, hfz102_2, hfz102_3, hfz102_4, hfz102_5⟩ := blk6 BK102.out) | ((with_reducible refine gate_builtin (b := .append) (xs := #[.tmp 57, .tmp 60]) rfl ?_); at_builtin; refine Kd.R_append (Kd.int .u8) (w0 := w) w.heap.size rfl (.tmp 57) (.tmp 60) 39 5 (.int .u8 0) 1 rfl Try.underlying39 info5 rfl (by decide) (by omega) v108 y107 ((wrap64 ((wrap64 (16 * ((rd_T28 l0 x11_1).f1))) + ((rd_T28 l0 x11_1).f2))) % 256) [.int .u8 ((wrap64 ((wrap64 (16 * ((rd_T28 l0 x11_1).f1))) + ((rd_T28 l0 x11_1).f2))) % 256)] (fun k_ => some k_ ≠ (.slice Ao101 t104.length co101 : Value).ownBlock) (fun _ => False) rfl rfl ?aP (fun _ hk => hk.elim) ?aF ?aO ?aB ?aS ?aL ?_; (case aP => exact rfl); (case aB => exact qq16); (case aF => exact qqm); (case aO => exact (qR HO109.out)); (case aS => exact qqx); (case aL => have := LMc78.out; omega); intro v145 w103 ho hb hg hat; rw [← Ny144.out] at ho; replace BK102 := Aside0.mk (blk_grown (bq BK102.out) hg (Kd.R_ne HO109.out BK102.out (by decide))); replace HO106 := Aside0.mk (Kd.R_after (ok := (fun _ => True)) (qR HO106.out) hg hat); replace HB := Aside0.mk (hb); have HO146 := Aside0.mk (ho); clear HO109; clear ho hb hg hat; obtain ⟨hcz104_0, hcz104_1, hcz104_2, hcz104_3, hcz104_4, hcz104_5, hfz104_0, hfz104_1, hfz104_2, hfz104_3, hfz104_4, hfz104_5⟩ := blk6 BK102.out) | ((with_reducible refine gate_builtin (b := .append) (xs := #[.tmp 62, .tmp 66]) rfl ?_); at_builtin; refine Kd.R_append (Kd.int .u8) (w0 := w) w.heap.size rfl (.tmp 62) (.tmp 66) 39 5 (.int .u8 0) 1 rfl Try.underlying39 info5 rfl (by decide) (by omega) v145 y144 (((rd_T28 l0 x11_1).f3) % 256) [.int .u8 (((rd_T28 l0 x11_1).f3) % 256)] (fun k_ => some k_ ≠ (.slice Ao101 t104.length co101 : Value).ownBlock) (fun _ => False) rfl rfl ?aP (fun _ hk => hk.elim) ?aF ?aO ?aB ?aS ?aL ?_; (case aP => exact rfl); (case aB => exact qq16); (case aF => exact qqm); (case aO => exact (qR HO146.out)); (case aS => exact qqx); (case aL => have := LMc79.out; omega); intro v148 w105 ho hb hg hat; rw [← Ny147.out] at ho; replace BK102 := Aside0.mk (blk_grown (bq BK102.out) hg (Kd.R_ne HO146.out BK102.out (by decide))); replace HO106 := Aside0.mk (Kd.R_after (ok := (fun _ => True)) (qR HO106.out) hg hat); replace HB := Aside0.mk (hb); have HO149 := Aside0.mk (ho); clear HO146; clear ho hb hg hat; obtain ⟨hcz106_0, hcz106_1, hcz106_2, hcz106_3, hcz106_4, hcz106_5, hfz106_0, hfz106_1, hfz106_2, hfz106_3, hfz106_4, hfz106_5⟩ := blk6 BK102.out) | ((with_reducible refine gate_callee (f := 37) rfl ?_); refine goesL_ (some 70) rfl rfl Try.func37 (by kernel_rfl) rfl #[.int .i64 ((rd_T28 l0 x11_1).f1)] rfl qq0 ?_; (with_reducible refine (wire_one.calls ((rd_T28 l0 x11_1).f1) false _ A80.out).mono ?_); rintro e w' ⟨rfl, ⟨nd, rfl⟩⟩; refine ⟨_, rfl, ?_⟩) | ((with_reducible refine gate_builtin (b := .append) (xs := #[.tmp 72, .tmp 76]) rfl ?_); at_builtin; refine Kd.R_append (Kd.int .u8) (w0 := w) w.heap.size rfl (.tmp 72) (.tmp 76) 39 5 (.int .u8 0) 1 rfl Try.underlying39 info5 rfl (by decide) (by omega) v148 y147 (((rd_T28 l0 x11_1).f4) % 256) [.int .u8 (((rd_T28 l0 x11_1).f4) % 256)] (fun k_ => some k_ ≠ (.slice Ao101 t104.length co101 : Value).ownBlock) (fun _ => False) rfl rfl ?aP (fun _ hk => hk.elim) ?aF ?aO ?aB ?aS ?aL ?_; (case aP => exact rfl); (case aB => exact qq16); (case aF => exact qqm); (case aO => exact (qR HO149.out)); (case aS => exact qqx); (case aL => have := LMc94.out; omega); intro v152 w107 ho hb hg hat; rw [← Ny151.out] at ho; replace BK102 := Aside0.mk (blk_grown (bq BK102.out) hg (Kd.R_ne HO149.out BK102.out (by decide))); replace HO106 := Aside0.mk (Kd.R_after (ok := (fun _ => True)) (qR HO106.out) hg hat); replace HB := Aside0.mk (hb); have HO153 := Aside0.mk (ho); clear HO149; clear ho hb hg hat))
      go_roundg k1
      case measure => have := HK1.out; omega
      case rel => exact ⟨(y151), (wrap64 ((wrap64 (16 * ((rd_T28 l0 x11_1).f1))) + ((rd_T28 l0 x11_1).f2))), (wrap64 (x11_1 + 1)), qq8, qq8, H', ⟨qq18⟩, ⟨qR (Kd.R_mono HO153.out (fun _ hk => trivial))⟩, ⟨qS1 GE102 HB.out⟩⟩
end Go.Proofs.Ytdmnknhlibaaoaa.M
namespace Go.Proofs.Ytdmnknhlibaaoaa.Z
open Go.RowKit Go.Proofs.YtdmnknhlibaaoaaW.PrintWords Go.Proofs.YtdmnknhlibaaoaaW.PrintLast Go.Proofs.Ytdmnknhlibaaoaa.M
set_option linter.unusedVariables false
theorem number_f {n : Int} (h0 : 0 ≤ n) (h1 : n ≤ 268435455) : wire_number.f n = some (num n) := by
  unfold wire_number.f
  rw [if_pos h0, if_pos h1]
  rfl
theorem counts_f (n : Int) : wire_counts.f n = some (decide (0 ≤ n ∧ n ≤ 268435455)) := by
  unfold wire_counts.f
  by_cases h : n ≥ 0
  · rw [if_pos h]
    congr 1
    rw [Bool.eq_iff_iff, decide_eq_true_eq, decide_eq_true_eq]
    omega
  · rw [if_neg h]
    congr 1
    rw [Bool.eq_iff_iff, decide_eq_true_eq]
    constructor
    · intro h; cases h
    · omega
def vlqAns (s : ByteArray) (r : List Int) (j : Nat) (n : Int) : Int × Int × Int :=
  match vlq j n r with
  | .error e => (0, 0, e)
  | .ok (m, r') => (m, s.size - r'.length, 0)
theorem rv_l0 (s : ByteArray) (a : Int) (h0 : 0 ≤ a) (hs : s.size ≤ 140737488351232) : ∀ (j : Nat) (n : Int) (k : Nat), j ≤ 4 → j < k → 0 ≤ n → (n + 1) * 128 ^ j ≤ 268435456 → a + (4 - j) ≤ s.size →
    wire_ReadVlq.l0 k s a n (4 - j) = some (vlqAns s ((bytesOf s).drop (a + (4 - j)).toNat) j n)
  | 0, n, k, _, hk, _, _, _ => by
    obtain ⟨k, rfl⟩ : ∃ m, k = m + 1 := ⟨k - 1, by omega⟩
    simp only [wire_ReadVlq.l0]
    rw [if_neg (by omega)]
    rfl
  | j + 1, n, k, hj, hk, hn, hb, hp => by
    obtain ⟨k, rfl⟩ : ∃ m, k = m + 1 := ⟨k - 1, by omega⟩
    have e1 : wrap64 (a + (4 - ((j + 1 : Nat) : Int))) = a + (4 - ((j + 1 : Nat) : Int)) := w64 (by omega) (by omega)
    simp only [wire_ReadVlq.l0]
    rw [if_pos (by omega), e1]
    have hp2 : (1 : Int) ≤ 128 ^ j := by
      have : (0 : Int) < 128 ^ j := Int.pow_pos (by decide)
      omega
    have hb2 : n + 1 ≤ 268435456 ∧ (n + 1) * 128 * 128 ^ j ≤ 268435456 := by
      rw [Int.pow_succ, Int.mul_comm (128 ^ j) 128, ← Int.mul_assoc] at hb
      refine ⟨?_, hb⟩
      have := Int.mul_le_mul_of_nonneg_left hp2 (show 0 ≤ (n + 1) * 128 by omega)
      omega
    by_cases c1 : a + (4 - ((j + 1 : Nat) : Int)) ≥ (s.size : Int)
    · rw [if_pos c1]
      unfold vlqAns
      rw [drop_end s _ (by omega), vlq_nil]
    · have hr := bt_range s (a + (4 - ((j + 1 : Nat) : Int)))
      have e2 : wrap64 (bt s (a + (4 - ((j + 1 : Nat) : Int)))) = bt s (a + (4 - ((j + 1 : Nat) : Int))) := w64 (by omega) (by omega)
      have e3 : wrap64 (n * 128) = n * 128 := w64 (by omega) (by omega)
      rw [if_neg c1, if_pos (by omega), if_pos (by omega), e2, e3]
      unfold vlqAns
      rw [drop_at s _ (by omega) (by omega)]
      generalize hc : bt s (a + (4 - ((j + 1 : Nat) : Int))) = c at *
      by_cases c2 : c < 128
      · rw [if_pos c2, vlq_lo c2]
        have e4 : Int.tmod c 128 = c := by rw [Int.tmod_eq_emod_of_nonneg hr.1]; omega
        rw [e4, w64 (by omega) (by omega), w64 (by omega) (by omega)]
        have hl := drop_len s (a + (4 - ((j + 1 : Nat) : Int)) + 1) (by omega) (by omega)
        dsimp only
        rw [hl]
        congr 2
        congr 1
        omega
      · rw [if_neg c2, vlq_hi c2]
        have e4 : Int.tmod c 128 = c - 128 := by rw [Int.tmod_eq_emod_of_nonneg hr.1]; omega
        rw [e4, w64 (by omega) (by omega), w64 (by omega) (by omega)]
        have hb3 : (n * 128 + (c - 128) + 1) * 128 ^ j ≤ 268435456 := by
          have := Int.mul_le_mul_of_nonneg_right (show n * 128 + (c - 128) + 1 ≤ (n + 1) * 128 by omega) (show (0 : Int) ≤ 128 ^ j by omega)
          omega
        have ih := rv_l0 s a h0 hs j (n * 128 + (c - 128)) k (by omega) (by omega) (by omega) hb3 (by omega)
        have e5 : (4 - ((j + 1 : Nat) : Int)) + 1 = 4 - (j : Int) := by omega
        have e6 : a + (4 - ((j + 1 : Nat) : Int)) + 1 = a + (4 - (j : Int)) := by omega
        rw [e5, ih, e6]
        rfl
theorem readVlq_f (s : ByteArray) (a : Int) (k : Nat) (hk : 7 ≤ k) (h0 : 0 ≤ a) (h1 : a ≤ s.size) (hs : s.size ≤ 140737488351232) :
    wire_ReadVlq.f k s a = some (vlqAns s ((bytesOf s).drop a.toNat) 4 0) := by
  unfold wire_ReadVlq.f
  rw [if_neg (by omega)]
  obtain ⟨k, rfl⟩ : ∃ m, k = m + 1 := ⟨k - 1, by omega⟩
  simp only [wire_ReadVlq.j0]
  rw [if_neg (by rw [decide_eq_true_eq]; omega)]
  have h := rv_l0 s a h0 hs 4 0 k (by omega) (by omega) (by omega) (by decide) (by omega)
  have e : (4 : Int) - ((4 : Nat) : Int) = 0 := by omega
  rw [e, Int.add_zero] at h
  exact h
theorem within_f (a b c : Int) : wire_within.f a b c = some (decide (b ≤ a ∧ a ≤ c)) := by
  unfold wire_within.f
  by_cases h : a ≥ b
  · rw [if_pos h]
    congr 1
    rw [Bool.eq_iff_iff, decide_eq_true_eq, decide_eq_true_eq]
    omega
  · rw [if_neg h]
    congr 1
    rw [Bool.eq_iff_iff, decide_eq_true_eq]
    constructor
    · intro h; cases h
    · omega
theorem one_f (a : Int) : wire_one.f a = some (decide (a = 12 ∨ a = 13)) := by
  unfold wire_one.f
  by_cases h : a = 12
  · rw [if_pos h]; simp [h]
  · rw [if_neg h]
    congr 1
    rw [Bool.eq_iff_iff, decide_eq_true_eq, beq_iff_eq]
    omega
theorem ite_to {α : Type} {p : Prop} [Decidable p] {a b c : α} (h1 : p → a = c) (h2 : ¬ p → b = c) : (if p then a else b) = c := by
  by_cases h : p
  · rw [if_pos h]; exact h1 h
  · rw [if_neg h]; exact h2 h
set_option maxHeartbeats 1000000 in
theorem right_f (m : Msg) (k : Nat) (hk : 6 ≤ k) : wire_Right.f k m.f0 m.f1 m.f2 m.f3 m.f4 m.f5 = some (decide (Right m)) := by
  obtain ⟨f0, f1, f2, f3, f4, f5⟩ := m
  obtain ⟨k, rfl⟩ : ∃ q, k = q + 6 := ⟨k - 6, by omega⟩
  have hd := toList_nil f5
  generalize hD : decide (Right ⟨f0, f1, f2, f3, f4, f5⟩) = D
  have hR : D = true ↔ (0 ≤ f0 ∧ f0 ≤ 268435455 ∧ f5.size ≤ 100000 ∧ ((8 ≤ f1 ∧ f1 ≤ 14 ∧ 0 ≤ f2 ∧ f2 ≤ 15 ∧ 0 ≤ f3 ∧ f3 ≤ 127 ∧ 0 ≤ f4 ∧ f4 ≤ 127 ∧ (f1 = 12 ∨ f1 = 13 → f4 = 0) ∧ f5.size = 0) ∨
   (f1 = 15 ∧ f2 = 0 ∧ f4 = 0 ∧ (f3 = 240 ∨ f3 = 247)) ∨ (f1 = 16 ∧ f2 = 0 ∧ f4 = 0 ∧ 0 ≤ f3 ∧ f3 ≤ 127))) := by
    rw [← hD, decide_eq_true_eq]; rfl
  clear hD
  simp only [wire_Right.f, wire_Right.j0, wire_Right.j1, wire_Right.j2, wire_Right.j3, wire_Right.j4, counts_f, within_f, Option.bind_some, decide_eq_true_eq, beq_iff_eq, hd, Bool.false_eq_true, if_false, if_true]
  repeat' (refine ite_to (fun _ => ?_) (fun _ => ?_))
  all_goals
    refine congrArg some ?_
    rw [Bool.eq_iff_iff, hR]
    simp only [decide_eq_true_eq, beq_iff_eq, Bool.false_eq_true, false_iff, true_iff]
    omega
end Go.Proofs.Ytdmnknhlibaaoaa.Z
namespace Go.Proofs.Ytdmnknhlibaaoaa.Z
open Go.RowKit Go.Proofs.YtdmnknhlibaaoaaW.PrintWords Go.Proofs.YtdmnknhlibaaoaaW.PrintLast Go.Proofs.Ytdmnknhlibaaoaa.M
set_option linter.unusedVariables false
def Suf (s : ByteArray) (r : List Int) : Prop := ∃ p, bytesOf s = p ++ r
def pos (s : ByteArray) (r : List Int) : Int := s.size - r.length
theorem Suf.all (s : ByteArray) : Suf s (bytesOf s) := ⟨[], rfl⟩
theorem Suf.of {s : ByteArray} {p r : List Int} (h : Suf s (p ++ r)) : Suf s r := by
  obtain ⟨q, hq⟩ := h
  exact ⟨q ++ p, by rw [hq, List.append_assoc]⟩
theorem Suf.tail {s : ByteArray} {c : Int} {r : List Int} (h : Suf s (c :: r)) : Suf s r := Suf.of (p := [c]) h
theorem Suf.len {s : ByteArray} {r : List Int} (h : Suf s r) : (r.length : Int) ≤ s.size := by
  obtain ⟨p, hp⟩ := h
  have := congrArg List.length hp
  rw [bytesOf_length, List.length_append] at this
  omega
theorem Suf.bytes {s : ByteArray} {r : List Int} (h : Suf s r) : Bytes r := by
  obtain ⟨p, hp⟩ := h
  have := bytesOf_bytes s
  rw [hp] at this
  exact this.right
theorem pos_all (s : ByteArray) : pos s (bytesOf s) = 0 := by unfold pos; rw [bytesOf_length]; omega
theorem pos_nonneg {s : ByteArray} {r : List Int} (h : Suf s r) : 0 ≤ pos s r := by have := h.len; unfold pos; omega
theorem pos_le (s : ByteArray) (r : List Int) : pos s r ≤ s.size := by unfold pos; omega
theorem pos_drop {s : ByteArray} {r : List Int} (h : Suf s r) : (bytesOf s).drop (pos s r).toNat = r := by
  have hl := h.len
  obtain ⟨p, hp⟩ := h
  have := congrArg List.length hp
  rw [bytesOf_length, List.length_append] at this
  have e : (pos s r).toNat = p.length := by unfold pos; omega
  rw [e, hp, List.drop_left]
theorem pos_cons {s : ByteArray} {c : Int} {r : List Int} : pos s r = pos s (c :: r) + 1 := by unfold pos; rw [List.length_cons]; omega
theorem pos_lt {s : ByteArray} {c : Int} {r : List Int} : pos s (c :: r) < s.size := by unfold pos; rw [List.length_cons]; omega
theorem pos_nil (s : ByteArray) : pos s [] = s.size := by unfold pos; simp
theorem bt_pos {s : ByteArray} {c : Int} {r : List Int} (h : Suf s (c :: r)) : bt s (pos s (c :: r)) = c := by
  have h1 := drop_at s (pos s (c :: r)) (pos_nonneg h) pos_lt
  rw [pos_drop h] at h1
  injection h1 with h1 _
  exact h1.symm
theorem vlq_suf {i : Nat} {n m : Int} {s : ByteArray} {r r' : List Int} (h : Suf s r) (hv : vlq i n r = .ok (m, r')) : Suf s r' := by
  obtain ⟨p, rfl, _⟩ := vlq_ok h.bytes hv
  exact h.of
theorem dat_suf {bs r' : List Int} {s : ByteArray} {r : List Int} (h : Suf s r) (hv : dat r = .ok (bs, r')) : Suf s r' := by
  obtain ⟨_, _, p, rfl, _⟩ := dat_ok h.bytes hv
  exact h.of.of
theorem low_suf {a : Int} {r' : List Int} {s : ByteArray} {r : List Int} (h : Suf s r) (hv : low r = .ok (a, r')) : Suf s r' := by
  obtain ⟨rfl, _⟩ := low_ok hv
  exact h.tail
section
variable {s : ByteArray} {r : List Int} {last : Int} {k : Nat}
theorem fail0 (at_ e : Int) : wire_reader_fail.f s at_ last 0 e = some (s, at_, last, e) := by unfold wire_reader_fail.f; rw [if_pos rfl]
theorem number_r (hk : 7 ≤ k) (hs : s.size ≤ 140737488351232) (h : Suf s r) : wire_reader_number.f k s (pos s r) last 0 = some (match vlq 4 0 r with
    | .error e => (0, s, pos s r, last, e)
    | .ok (n, r') => (n, s, pos s r', last, 0)) := by
  unfold wire_reader_number.f
  rw [if_pos rfl, readVlq_f s _ k hk (pos_nonneg h) (pos_le s r) hs, pos_drop h]
  unfold vlqAns
  cases hv : vlq 4 0 r with
  | error e =>
    rw [Option.bind_some]
    dsimp only
    rcases vlq_e hv with rfl | rfl
    · rw [if_neg (by decide), fail0]; rfl
    · rw [if_neg (by decide), fail0]; rfl
  | ok x =>
    obtain ⟨n, r'⟩ := x
    rw [Option.bind_some]
    dsimp only
    rw [if_pos rfl]
    rfl
theorem number_e {e at_ : Int} (he : e ≠ 0) : wire_reader_number.f k s at_ last e = some (0, s, at_, last, e) := by
  unfold wire_reader_number.f
  rw [if_neg he]
theorem data_r (hs : s.size ≤ 140737488351232) (h : Suf s r) : wire_reader_data.f s (pos s r) last 0 = some (match low r with
    | .error e => (0, s, pos s r, last, e)
    | .ok (a, r') => (a, s, pos s r', last, 0)) := by
  unfold wire_reader_data.f
  rw [if_pos rfl]
  cases r with
  | nil => rw [pos_nil, if_pos (by omega), fail0]; rfl
  | cons c r =>
    have hp := pos_lt (s := s) (c := c) (r := r)
    have hp0 := pos_nonneg h
    have hc := h.bytes.head
    rw [if_neg (by omega), if_pos hp0, if_pos hp, bt_pos h, w64 (by omega) (by omega)]
    by_cases c1 : c ≥ 128
    · rw [if_pos c1, fail0, low, if_pos c1]; rfl
    · rw [if_neg c1, low, if_neg c1, w64 (by omega) (by omega), ← pos_cons]
theorem data_e {e at_ : Int} (he : e ≠ 0) : wire_reader_data.f s at_ last e = some (0, s, at_, last, e) := by
  unfold wire_reader_data.f
  rw [if_neg he]
theorem bytes_r (hk : 7 ≤ k) (hs : s.size ≤ 140737488351232) (h : Suf s r) : match dat r with
    | .error e => ∃ a, wire_reader_bytes.f k s (pos s r) last 0 = some (⟨#[]⟩, s, a, last, e)
    | .ok (bs, r') => wire_reader_bytes.f k s (pos s r) last 0 = some (strOfNums bs, s, pos s r', last, 0) := by
  unfold wire_reader_bytes.f
  rw [number_r hk hs h]
  unfold dat
  cases hv : vlq 4 0 r with
  | error e =>
    rw [Option.bind_some]
    dsimp only
    have he : e ≠ 0 := by rcases vlq_e hv with rfl | rfl <;> decide
    rw [if_neg he]
    exact ⟨_, rfl⟩
  | ok x =>
    obtain ⟨n, r1⟩ := x
    obtain ⟨h0, h1, _⟩ := vlq4_ok h.bytes hv
    have h2 := vlq_suf h hv
    have hp0 := pos_nonneg h2
    have hpl := pos_le s r1
    have hpe : pos s r1 = s.size - r1.length := rfl
    rw [Option.bind_some]
    dsimp only
    rw [if_pos rfl]
    by_cases c1 : n > 100000
    · rw [if_pos c1, if_pos c1, fail0]
      exact ⟨_, rfl⟩
    · rw [if_neg c1, if_neg c1, w64 (by omega) (by omega)]
      by_cases c2 : n > r1.length
      · rw [if_pos c2, if_pos (by omega), fail0]
        exact ⟨_, rfl⟩
      · rw [if_neg c2, if_neg (by omega), if_pos (by omega), if_pos (by omega), if_pos (by omega)]
        dsimp only
        have e1 : s.extract (pos s r1).toNat (pos s r1 + n).toNat = strOfNums (r1.take n.toNat) := by
          apply bytesOf_inj
          rw [bytesOf_extract, pos_drop h2, bytesOf_str (h2.bytes.take _)]
          congr 1
          omega
        have e2 : pos s r1 + n = pos s (r1.drop n.toNat) := by
          unfold pos
          rw [List.length_drop]
          omega
        rw [e1, e2]
theorem bytes_e {e at_ : Int} (he : e ≠ 0) : wire_reader_bytes.f k s at_ last e = some (⟨#[]⟩, s, at_, last, e) := by
  unfold wire_reader_bytes.f
  rw [number_e he, Option.bind_some]
  dsimp only
  rw [if_neg he]
theorem status_e {e at_ : Int} (he : e ≠ 0) : wire_reader_status.f s at_ last e = some (0, s, at_, last, e) := by
  unfold wire_reader_status.f
  rw [if_neg he]
theorem status_nil : wire_reader_status.f s (pos s []) last 0 = some (0, s, pos s [], last, 152) := by
  unfold wire_reader_status.f
  rw [if_pos rfl, pos_nil, if_pos (by omega), fail0]; rfl
theorem status_lo {c : Int} {r1 : List Int} (hs : s.size ≤ 140737488351232) (h : Suf s (c :: r1)) (hc : c < 128) :
    wire_reader_status.f s (pos s (c :: r1)) last 0 = if last = 0 then some (last, s, pos s (c :: r1), last, 151) else some (last, s, pos s (c :: r1), last, 0) := by
  have hp := pos_lt (s := s) (c := c) (r := r1)
  have hp0 := pos_nonneg h
  have hcb := h.bytes.head
  unfold wire_reader_status.f
  rw [if_pos rfl, if_neg (by omega), if_pos hp0, if_pos hp, bt_pos h, w64 (by omega) (by omega), if_pos hc, fail0]
  rfl
theorem status_hi {c : Int} {r1 : List Int} (hs : s.size ≤ 140737488351232) (h : Suf s (c :: r1)) (hc : ¬ c < 128) :
    wire_reader_status.f s (pos s (c :: r1)) last 0 = some (c, s, pos s r1, last, if c > 240 ∧ c ≠ 247 ∧ c ≠ 255 then 151 else 0) := by
  have hp := pos_lt (s := s) (c := c) (r := r1)
  have hp0 := pos_nonneg h
  have hcb := h.bytes.head
  unfold wire_reader_status.f
  rw [if_pos rfl, if_neg (by omega), if_pos hp0, if_pos hp, bt_pos h, w64 (by omega) (by omega), if_neg hc, fail0, w64 (by omega) (by omega), ← pos_cons]
  by_cases c1 : c > 240
  · rw [if_pos c1]
    by_cases c2 : c = 247
    · rw [if_pos c2, if_neg (by omega)]
    · rw [if_neg c2]
      by_cases c3 : c = 255
      · rw [if_pos c3, if_neg (by omega)]
      · rw [if_neg c3, if_pos ⟨c1, c2, c3⟩, Option.bind_some]
        dsimp only
        rw [w64 (by omega) (by omega), ← pos_cons]
  · rw [if_neg c1, if_neg (by omega)]
def rest (k : Nat) (d c : Int) (s : ByteArray) (a last e : Int) : Option (Int × Int × Int × Int × Int × ByteArray × ByteArray × Int × Int × Int) :=
  if c = 255 then ((wire_reader_data.f s a 0 e).bind fun bt216 => ((wire_reader_bytes.f k bt216.2.1 bt216.2.2.1 bt216.2.2.2.1 bt216.2.2.2.2).bind fun bt221 => (some (d, 16, 0, bt216.1, 0, bt221.1, bt221.2.1, bt221.2.2.1, bt221.2.2.2.1, bt221.2.2.2.2))))
  else (if c ≥ 240 then ((wire_reader_bytes.f k s a 0 e).bind fun bt226 => (some (d, 15, 0, c, 0, bt226.1, bt226.2.1, bt226.2.2.1, bt226.2.2.2.1, bt226.2.2.2.2)))
  else ((wire_reader_data.f s a c e).bind fun bt231 => ((wire_one.f (wrap64 (Int.tdiv c 16))).bind fun t236 => (if t236 = true then (some (d, wrap64 (Int.tdiv c 16), Int.tmod c 16, bt231.1, 0, (⟨#[]⟩ : ByteArray), bt231.2.1, bt231.2.2.1, bt231.2.2.2.1, bt231.2.2.2.2)) else ((wire_reader_data.f bt231.2.1 bt231.2.2.1 bt231.2.2.2.1 bt231.2.2.2.2).bind fun bt237 => (some (d, wrap64 (Int.tdiv c 16), Int.tmod c 16, bt231.1, bt237.1, (⟨#[]⟩ : ByteArray), bt237.2.1, bt237.2.2.1, bt237.2.2.2.1, bt237.2.2.2.2)))))))
theorem message_rest (a last e : Int) : wire_reader_message.f k s a last e = (wire_reader_number.f k s a last e).bind fun x => (wire_reader_status.f x.2.1 x.2.2.1 x.2.2.2.1 x.2.2.2.2).bind fun y => rest k x.1 y.1 y.2.1 y.2.2.1 y.2.2.2.1 y.2.2.2.2 := rfl
theorem rest_e {d c a e : Int} (he : e ≠ 0) : ∃ t, rest k d c s a last e = some t ∧ t.2.2.2.2.2.2.2.2.2 = e := by
  unfold rest
  rw [data_e he, data_e he, bytes_e he, one_f]
  simp only [Option.bind_some]
  rw [bytes_e he, data_e he]
  simp only [Option.bind_some]
  by_cases c1 : c = 255
  · rw [if_pos c1]; exact ⟨_, rfl, rfl⟩
  · rw [if_neg c1]
    by_cases c2 : c ≥ 240
    · rw [if_pos c2]; exact ⟨_, rfl, rfl⟩
    · rw [if_neg c2]
      split
      · exact ⟨_, rfl, rfl⟩
      · exact ⟨_, rfl, rfl⟩
theorem low_e {e : Int} (h : low r = .error e) : e = 151 ∨ e = 152 := by
  cases r with
  | nil => cases h; exact .inr rfl
  | cons c r =>
    by_cases c1 : c ≥ 128
    · rw [low, if_pos c1] at h; cases h; exact .inl rfl
    · rw [low, if_neg c1] at h; cases h
theorem dat_e {e : Int} (h : dat r = .error e) : e = 150 ∨ e = 151 ∨ e = 152 := by
  unfold dat at h
  cases hv : vlq 4 0 r with
  | error e' =>
    rw [hv] at h; injection h with h; subst h
    rcases vlq_e hv with rfl | rfl
    · exact .inl rfl
    · exact .inr (.inr rfl)
  | ok x =>
    obtain ⟨n, r1⟩ := x
    rw [hv] at h
    dsimp only at h
    by_cases c1 : n > 100000
    · rw [if_pos c1] at h; cases h; exact .inr (.inl rfl)
    · rw [if_neg c1] at h
      by_cases c2 : n > r1.length
      · rw [if_pos c2] at h; cases h; exact .inr (.inr rfl)
      · rw [if_neg c2] at h; cases h
def Told (x : Except Int (Msg × Int × List Int)) (s : ByteArray) (o : Option (Int × Int × Int × Int × Int × ByteArray × ByteArray × Int × Int × Int)) : Prop :=
  match x with
  | .error e => e ≠ 0 ∧ ∃ t, o = some t ∧ t.2.2.2.2.2.2.2.2.2 = e
  | .ok (m, l', r') => Suf s r' ∧ o = some (m.f0, m.f1, m.f2, m.f3, m.f4, m.f5, s, pos s r', l', 0)
theorem rest_r {d c : Int} (hk : 7 ≤ k) (hs : s.size ≤ 140737488351232) (h : Suf s r) (h1 : 128 ≤ c) (h2 : c ≤ 255) : Told (body d c r) s (rest k d c s (pos s r) last 0) := by
  unfold rest
  by_cases c1 : c = 255
  · subst c1
    rw [if_pos rfl, body_255, data_r hs h, Option.bind_some]
    cases hl : low r with
    | error e =>
      dsimp only
      have he : e ≠ 0 := by rcases low_e hl with rfl | rfl <;> decide
      rw [bytes_e he]
      exact ⟨he, _, rfl, rfl⟩
    | ok x =>
      obtain ⟨a, r1⟩ := x
      dsimp only
      have hb := bytes_r (k := k) (last := 0) hk hs (low_suf h hl)
      cases hd : dat r1 with
      | error e =>
        rw [hd] at hb
        obtain ⟨q, hb⟩ := hb
        rw [hb]
        refine ⟨by rcases dat_e hd with rfl | rfl | rfl <;> decide, _, rfl, rfl⟩
      | ok y =>
        obtain ⟨bs, r2⟩ := y
        rw [hd] at hb
        dsimp only at hb
        rw [hb]
        exact ⟨dat_suf (low_suf h hl) hd, rfl⟩
  · rw [if_neg c1]
    by_cases c2 : c ≥ 240
    · rw [if_pos c2, body_sys c1 c2]
      have hb := bytes_r (k := k) (last := 0) hk hs h
      cases hd : dat r with
      | error e =>
        rw [hd] at hb
        obtain ⟨q, hb⟩ := hb
        rw [hb]
        refine ⟨by rcases dat_e hd with rfl | rfl | rfl <;> decide, _, rfl, rfl⟩
      | ok y =>
        obtain ⟨bs, r2⟩ := y
        rw [hd] at hb
        dsimp only at hb
        rw [hb]
        exact ⟨dat_suf h hd, rfl⟩
    · rw [if_neg c2, body_key (by omega), data_r hs h, Option.bind_some, one_f, Option.bind_some]
      have e1 : wrap64 (Int.tdiv c 16) = c / 16 := by rw [Int.tdiv_eq_ediv_of_nonneg (by omega)]; exact w64 (by omega) (by omega)
      have e2 : Int.tmod c 16 = c % 16 := Int.tmod_eq_emod_of_nonneg (by omega)
      rw [e1, e2]
      cases hl : low r with
      | error e =>
        dsimp only
        have he : e ≠ 0 := by rcases low_e hl with rfl | rfl <;> decide
        rw [data_e he]
        refine ⟨he, ?_⟩
        split
        · exact ⟨_, rfl, rfl⟩
        · exact ⟨_, rfl, rfl⟩
      | ok x =>
        obtain ⟨a, r1⟩ := x
        dsimp only
        have h3 := low_suf h hl
        by_cases c3 : c / 16 = 12 ∨ c / 16 = 13
        · rw [if_pos c3, if_pos (decide_eq_true c3)]
          exact ⟨h3, rfl⟩
        · rw [if_neg c3, if_neg (by rw [decide_eq_true_eq]; exact c3), data_r hs h3, Option.bind_some]
          cases hl2 : low r1 with
          | error e =>
            exact ⟨by rcases low_e hl2 with rfl | rfl <;> decide, _, rfl, rfl⟩
          | ok y =>
            obtain ⟨b, r2⟩ := y
            exact ⟨low_suf h3 hl2, rfl⟩
theorem message_r (hk : 7 ≤ k) (hs : s.size ≤ 140737488351232) (h : Suf s r) (hl : LastOk last) : Told (msg last r) s (wire_reader_message.f k s (pos s r) last 0) := by
  rw [message_rest, number_r hk hs h, Option.bind_some]
  cases hv : vlq 4 0 r with
  | error e =>
    have he : e ≠ 0 := by rcases vlq_e hv with rfl | rfl <;> decide
    unfold msg
    rw [hv]
    dsimp only
    rw [status_e he, Option.bind_some]
    exact ⟨he, rest_e he⟩
  | ok x =>
    obtain ⟨d, r1⟩ := x
    have h2 := vlq_suf h hv
    cases r1 with
    | nil =>
      unfold msg
      rw [hv]
      dsimp only
      rw [status_nil, Option.bind_some]
      exact ⟨by decide, rest_e (show (152 : Int) ≠ 0 by decide)⟩
    | cons c r1 =>
      rw [msg_at hv]
      dsimp only
      by_cases c1 : c < 128
      · rw [if_pos c1, status_lo hs h2 c1]
        by_cases c2 : last = 0
        · rw [if_pos c2, if_pos c2, Option.bind_some]
          exact ⟨by decide, rest_e (show (151 : Int) ≠ 0 by decide)⟩
        · rw [if_neg c2, if_neg c2, Option.bind_some]
          have hl2 : 128 ≤ last ∧ last < 240 := by rcases hl with hl | hl <;> omega
          exact rest_r hk hs h2 hl2.1 (by omega)
      · have hc := h2.bytes.head
        rw [if_neg c1, status_hi hs h2 c1, Option.bind_some]
        by_cases c2 : c > 240 ∧ c ≠ 247 ∧ c ≠ 255
        · rw [if_pos c2]
          dsimp only
          rw [if_pos c2]
          exact ⟨by decide, rest_e (by decide)⟩
        · rw [if_neg c2]
          dsimp only
          rw [if_neg c2]
          exact rest_r hk hs h2.tail (by omega) hc.2
end
theorem decode_l0 {s : ByteArray} (hs : s.size ≤ 1000000000) : ∀ {l : Int} {r : List Int} {ms : List Msg}, Dec l r ms → LastOk l → Suf s r → ∀ (out : List Msg) (k : Nat), out.length + r.length ≤ 1000000000 → ms.length + 8 < k →
    wire_Decode.l0 k s out s (pos s r) l = some (out ++ ms, 0, 0)
  | l, _, _, .nil _, hl, h, out, k, _, hk => by
    obtain ⟨k, rfl⟩ : ∃ m, k = m + 1 := ⟨k - 1, by omega⟩
    simp only [wire_Decode.l0]
    rw [pos_nil, if_neg (by omega), List.append_nil]
  | l, r, _, .cons (m := m) (ms := ms) (r' := r') (l' := l') hm hd, hl, h, out, k, ho, hk => by
    rw [List.length_cons] at hk
    obtain ⟨k, rfl⟩ : ∃ m, k = m + 1 := ⟨k - 1, by omega⟩
    have ht := message_r (k := k) (by omega) (by omega) h hl
    rw [hm] at ht
    obtain ⟨h1, h2⟩ := ht
    obtain ⟨k1, rfl, p, hp, k3, k4⟩ := msg_ok hl h.bytes hm
    have hlen : r.length = p.length + r'.length := by rw [hp, List.length_append]
    have hlt : pos s r < s.size := by unfold pos; omega
    simp only [wire_Decode.l0]
    rw [if_pos hlt, h2, Option.bind_some]
    dsimp only
    rw [if_pos rfl, if_pos (by omega)]
    have ih := decode_l0 hs hd (nextL_ok k1) h1 (out ++ [m]) k qq1i (by omega)
    rw [List.append_assoc] at ih
    exact ih
theorem decode_bad {s : ByteArray} (hs : s.size ≤ 1000000000) {l e : Int} {r : List Int} {n : Nat} (hd : Bad l r e n) : LastOk l → Suf s r → ∀ (out : List Msg), out.length + r.length ≤ 1000000000 →
    ∃ K, ∀ k, K ≤ k → wire_Decode.l0 k s out s (pos s r) l = some ([], (s.size : Int) - (n : Int), e) := by
  induction hd with
  | @here l e r hne hm =>
    intro hl h out _
    refine ⟨9, fun k hk => ?_⟩
    obtain ⟨k, rfl⟩ : ∃ m, k = m + 1 := ⟨k - 1, by omega⟩
    have ht := message_r (k := k) (by omega) (by omega) h hl
    rw [hm] at ht
    obtain ⟨he, t, h1, h2⟩ := ht
    have hlt : pos s r < s.size := by
      have := List.length_pos_iff.2 hne
      unfold pos; omega
    simp only [wire_Decode.l0]
    rw [if_pos hlt, h1, Option.bind_some, h2, if_neg he]
    rfl
  | @later l l' e r r' m n hm _ ih =>
    intro hl h out ho
    obtain ⟨k1, rfl, p, hp, k3, k4⟩ := msg_ok hl h.bytes hm
    have hlen : r.length = p.length + r'.length := by rw [hp, List.length_append]
    have hsuf : Suf s r' := by rw [hp] at h; exact h.of
    obtain ⟨K, hK⟩ := ih (nextL_ok k1) hsuf (out ++ [m]) qq1i
    refine ⟨K + 9, fun k hk => ?_⟩
    obtain ⟨k, rfl⟩ : ∃ m, k = m + 1 := ⟨k - 1, by omega⟩
    have ht := message_r (k := k) (by omega) (by omega) h hl
    rw [hm] at ht
    obtain ⟨h1, h2⟩ := ht
    have hlt : pos s r < s.size := by unfold pos; omega
    simp only [wire_Decode.l0]
    rw [if_pos hlt, h2, Option.bind_some]
    dsimp only
    rw [if_pos rfl, if_pos (by omega)]
    exact hK k (by omega)
theorem decode_ok {s : ByteArray} (hs : s.size ≤ 1000000000) {ms : List Msg} (h : Dec 0 (bytesOf s) ms) : Ev (fun k => wire_Decode.f k s) (ms, 0, 0) := by
  refine ⟨ms.length + 9, fun k hk => ?_⟩
  have h1 := decode_l0 hs h (.inl rfl) (Suf.all s) [] k (by rw [bytesOf_length]; simpa using hs) (by omega)
  rw [pos_all] at h1
  exact h1
theorem decode_err {s : ByteArray} (hs : s.size ≤ 1000000000) {e : Int} {n : Nat} (h : Bad 0 (bytesOf s) e n) : Ev (fun k => wire_Decode.f k s) ([], (s.size : Int) - (n : Int), e) := by
  obtain ⟨K, hK⟩ := decode_bad hs h (.inl rfl) (Suf.all s) [] (by rw [bytesOf_length]; simpa using hs)
  refine ⟨K, fun k hk => ?_⟩
  have h1 := hK k hk
  rw [pos_all] at h1
  exact h1
end Go.Proofs.Ytdmnknhlibaaoaa.Z
namespace Go.Proofs.Ytdmnknhlibaaoaa.Z
open Go.RowKit Go.Proofs.YtdmnknhlibaaoaaW.PrintWords Go.Proofs.YtdmnknhlibaaoaaW.PrintLast Go.Proofs.Ytdmnknhlibaaoaa.M
set_option linter.unusedVariables false
def tot : List Msg → Nat
  | [] => 0
  | m :: ms => m.f5.size + 10 + tot ms
theorem rd_drop (l : List Msg) (i : Nat) (h : i < l.length) : l.drop i = rd_T28 l (i : Int) :: l.drop (i + 1) := by
  rw [List.drop_eq_getElem_cons h]
  unfold rd_T28
  rw [Int.toNat_natCast, List.getD_eq_getElem?_getD, List.getElem?_eq_getElem h]
  rfl
theorem encode_step (k : Nat) (out : List Int) (last : Int) (l : List Msg) (i : Nat) (hi : i < l.length) (hk : 6 ≤ k) (hl : l.length ≤ 1000000000) (hr : Right (rd_T28 l (i : Int))) (ho : out.length + (rd_T28 l (i : Int)).f5.size + 10 ≤ 2000000000) :
    wire_Encode.l0 (k + 1) out last l (l.length : Int) (i : Int) = wire_Encode.l0 k (out ++ encOne last (rd_T28 l (i : Int))) (nextL (rd_T28 l (i : Int))) l (l.length : Int) ((i + 1 : Nat) : Int) := by
  simp only [wire_Encode.l0]
  have e1 : wrap64 ((i : Int) + 1) = ((i + 1 : Nat) : Int) := by rw [w64 (by omega) (by omega)]; omega
  rw [if_pos (by omega), if_pos (by omega), if_pos (by omega), right_f _ k hk, decide_eq_true hr, Option.bind_some, if_pos rfl, e1]
  generalize hm : rd_T28 l (i : Int) = m at *
  obtain ⟨f0, f1, f2, f3, f4, f5⟩ := m
  obtain ⟨h0, h1, h2, h⟩ := hr
  dsimp only at h0 h1 h2 h ho ⊢
  have hn := (num_len f0).2
  have hn2 := (num_len f5.size).2
  have hbl := bytesOf_length f5
  rw [number_f h0 h1, Option.bind_some, number_f (by omega) (by omega), if_pos (by omega), Option.bind_some]
  unfold encOne nextL
  dsimp only
  rcases h with ⟨k1, k2, k3, k4, k5, k6, k7, k8, k9, k10⟩ | ⟨rfl, rfl, rfl, kk⟩ | ⟨rfl, rfl, rfl, k1, k2⟩
  · have ew : wrap64 (wrap64 (16 * f1) + f2) = 16 * f1 + f2 := by rw [w64 (x := 16 * f1) (by omega) (by omega)]; exact w64 (by omega) (by omega)
    have e3 : f3 % 256 = f3 := by omega
    have e4 : f4 % 256 = f4 := by omega
    have e5 : (16 * f1 + f2) % 256 = 16 * f1 + f2 := by omega
    rw [if_neg (show ¬ f1 = 16 by omega), if_neg (show ¬ f1 = 15 by omega), if_neg (show ¬ f1 = 16 by omega), if_neg (show ¬ f1 = 15 by omega), if_neg (show ¬ f1 = 16 by omega), if_neg (show ¬ f1 = 15 by omega), ew, e3, e4, e5, one_f]
    simp only [Option.bind_some, decide_eq_true_eq, List.length_append, List.length_cons, List.length_nil]
    by_cases c1 : 16 * f1 + f2 = last
    · rw [if_pos c1, if_pos c1, if_pos (by omega)]
      by_cases c2 : f1 = 12 ∨ f1 = 13
      · rw [if_pos c2, if_pos c2]; simp only [List.append_assoc, List.nil_append]
      · rw [if_neg c2, if_neg c2, if_pos (by omega)]; simp only [List.append_assoc, List.nil_append, List.cons_append]
    · rw [if_neg c1, if_neg c1, if_pos (by omega), if_pos (by omega)]
      by_cases c2 : f1 = 12 ∨ f1 = 13
      · rw [if_pos c2, if_pos c2]; simp only [List.append_assoc, List.nil_append, List.cons_append]
      · rw [if_neg c2, if_neg c2, if_pos (by omega)]; simp only [List.append_assoc, List.nil_append, List.cons_append]
  · have e3 : f3 % 256 = f3 := by omega
    rw [if_neg (show ¬ (15 : Int) = 16 by decide), if_pos (show (15 : Int) = 15 from rfl), if_neg (show ¬ (15 : Int) = 16 by decide), if_pos (show (15 : Int) = 15 from rfl), if_neg (show ¬ (15 : Int) = 16 by decide), if_pos (show (15 : Int) = 15 from rfl), e3]
    simp only [Option.bind_some, List.length_append, List.length_cons, List.length_nil]
    rw [if_pos (by omega), if_pos (by omega), if_pos (by omega)]
    simp only [List.append_assoc, List.nil_append, List.cons_append]
  · have e3 : f3 % 256 = f3 := by omega
    rw [if_pos (show (16 : Int) = 16 from rfl), if_pos (show (16 : Int) = 16 from rfl), if_pos (show (16 : Int) = 16 from rfl), e3]
    simp only [Option.bind_some, List.length_append, List.length_cons, List.length_nil]
    rw [if_pos (by omega), if_pos (by omega), if_pos (by omega), if_pos (by omega)]
    simp only [List.append_assoc, List.nil_append, List.cons_append]
theorem encOne_size (l : Int) (m : Msg) : (encOne l m).length ≤ m.f5.size + 10 := by
  have a1 := (num_len m.f0).2
  have a2 := (num_len m.f5.size).2
  unfold encOne
  split
  · simp only [List.length_append, List.length_cons, bytesOf_length]; omega
  · split
    · simp only [List.length_append, List.length_cons, bytesOf_length]; omega
    · simp only [List.length_append, List.length_cons]
      split <;> split <;> simp <;> omega
theorem encode_l0 (l : List Msg) (hl : l.length ≤ 1000000000) : ∀ (j i : Nat) (out : List Int) (last : Int) (k : Nat), i + j = l.length → Rights (l.drop i) → out.length + tot (l.drop i) ≤ 1000000000 → j + 7 < k →
    wire_Encode.l0 k out last l (l.length : Int) (i : Int) = some (strOfNums (out ++ enc last (l.drop i)), 0)
  | 0, i, out, last, k, hj, _, _, hk => by
    obtain ⟨k, rfl⟩ : ∃ m, k = m + 1 := ⟨k - 1, by omega⟩
    simp only [wire_Encode.l0]
    rw [if_neg (by omega), List.drop_of_length_le (by omega), enc_nil, List.append_nil]
  | j + 1, i, out, last, k, hj, hr, ho, hk => by
    obtain ⟨k, rfl⟩ : ∃ m, k = m + 1 := ⟨k - 1, by omega⟩
    have hi : i < l.length := by omega
    rw [rd_drop l i hi] at hr ho ⊢
    simp only [tot] at ho
    rw [encode_step k out last l i hi (by omega) hl hr.head (by omega)]
    have hsz := encOne_size last (rd_T28 l (i : Int))
    rw [encode_l0 l hl j (i + 1) _ _ k (by omega) hr.tail (by rw [List.length_append]; omega) (by omega), enc_cons, List.append_assoc]
theorem tot_len {l : List Msg} (h : tot l ≤ 1000000000) : l.length ≤ 1000000000 := by
  have : ∀ l : List Msg, l.length ≤ tot l := by
    intro l
    induction l with
    | nil => simp [tot]
    | cons m ms ih => simp only [tot, List.length_cons]; omega
  have := this l
  omega
theorem encode_ok {l : List Msg} (hr : Rights l) (ht : tot l ≤ 1000000000) : Ev (fun k => wire_Encode.f k l) (strOfNums (enc 0 l), 0) :=
  ⟨l.length + 8, fun k hk => by
    have h := encode_l0 l (tot_len ht) l.length 0 [] 0 k (by omega) (by simpa using hr) (by simpa using ht) (by omega)
    show wire_Encode.l0 k [] 0 l (l.length : Int) 0 = _
    simpa using h⟩
theorem encOne_bytes {m : Msg} (hm : Right m) {l : Int} : Bytes (encOne l m) := by
  obtain ⟨f0, f1, f2, f3, f4, f5⟩ := m
  obtain ⟨h0, h1, h2, h⟩ := hm
  unfold encOne
  dsimp only at h0 h1 h2 h ⊢
  have a := num_bytes h0
  have b := num_bytes (n := f5.size) (by omega)
  have c := bytesOf_bytes f5
  split
  · exact a.append (Bytes.cons (by decide) (by decide) (Bytes.cons (by omega) (by omega) (b.append c)))
  · split
    · exact a.append (Bytes.cons (by omega) (by omega) (b.append c))
    · refine a.append (Bytes.append ?_ (Bytes.cons (by omega) (by omega) ?_))
      · split
        · exact Bytes.nil
        · exact Bytes.cons (by omega) (by omega) Bytes.nil
      · split
        · exact Bytes.nil
        · exact Bytes.cons (by omega) (by omega) Bytes.nil
theorem enc_bytes : ∀ {ms : List Msg} {l : Int}, Rights ms → Bytes (enc l ms)
  | [], _, _ => Bytes.nil
  | m :: ms, l, h => by
    rw [enc_cons]
    exact (encOne_bytes h.head).append (enc_bytes h.tail)
theorem enc_tot : ∀ (ms : List Msg) (l : Int), (enc l ms).length ≤ tot ms
  | [], _ => Nat.le_refl _
  | m :: ms, l => by
    have h1 := encOne_size l m
    have h2 := enc_tot ms (nextL m)
    rw [enc_cons, List.length_append]
    simp only [tot]
    omega
end Go.Proofs.Ytdmnknhlibaaoaa.Z
namespace Go.Proofs.Ytdmnknhlibaaoaa.M
open Go.RowKit Go.Proofs.YtdmnknhlibaaoaaW.PrintWords Go.Proofs.YtdmnknhlibaaoaaW.PrintLast Go.Proofs.YtdmnknhlibaaoaaW.PrintMore
attribute [local go_sem] max2_int min2_int max_two min_two max_three min_three max_four min_four
set_option linter.unusedVariables false
set_option linter.unusedSimpArgs false
def smf_Check_1.f (k : Nat) (a0_0 : Int) (a0_1 : Int) (a0_2 : Int) (a0_3 : Int) (a0_4 : Int) (a0_5 : ByteArray) : Option (Bool) := (wire_Right.f k a0_0 a0_1 a0_2 a0_3 a0_4 a0_5).bind fun t102 => (some (!t102))
theorem smf_Check_1.mono : ∀ a0 a1 a2 a3 a4 a5 k, LeO (smf_Check_1.f k a0 a1 a2 a3 a4 a5) (smf_Check_1.f (k + 1) a0 a1 a2 a3 a4 a5) := by
  intro a0 a1 a2 a3 a4 a5 k
  unfold smf_Check_1.f
  repeat' first
      | (with_reducible exact wire_Right.mono _ _ _ _ _ _ _)
      | (with_reducible exact LeO.refl _)
      | (with_reducible exact LeO.none _)
      | (with_reducible refine LeO.ite ?_ ?_)
      | (with_reducible refine LeO.bind ?_ (fun _ => ?_))
      | exact wire_Right.mono _ _ _ _ _ _ _
      | exact LeO.none _
      | refine LeO.ite ?_ ?_
      | refine LeO.bind ?_ (fun _ => ?_)
set_option maxHeartbeats 8000000 in
set_option maxRecDepth 100000 in
theorem smf_Check_1.calls (k : Nat) (a0_0 : Int) (a0_1 : Int) (a0_2 : Int) (a0_3 : Int) (a0_4 : Int) (a0_5 : ByteArray) (r : Bool) (w : World) (h : smf_Check_1.f k a0_0 a0_1 a0_2 a0_3 a0_4 a0_5 = some r) :
    Calls Try.prog 38 #[.agg #[.int .i64 a0_0, .int .i64 a0_1, .int .i64 a0_2, .int .i64 a0_3, .int .i64 a0_4, .string a0_5]] w fun e w' => e = .returned (.bool r) ∧ Below w.heap.size w w' := by
  have hu28 := Try.underlying28
  have HB := Aside0.mk (Below.refl w.heap.size w)
  have H := h
  unfold smf_Check_1.f at H
  clear h
  replace H := Option.bind_eq_some_iff.mp H
  obtain ⟨t102, A20, H⟩ := H
  try dsimp -simprocs only at H
  have A2 := Aside0.mk A20
  clear A20
  obtain rfl := Option.some.inj H
  go_enter Try.func38, Try.ntmps38
  go_wp2_with (first | ((with_reducible refine gate_dst (N := 1) rfl ?_); refine box_event ?hg (N := 1) ?hd (cs := #[.int .i64 a0_0, .int .i64 a0_1, .int .i64 a0_2, .int .i64 a0_3, .int .i64 a0_4, .string a0_5]) (t := 28) ?hr ?_; (case hd => rfl); (case hg => rfl); (case hr => exact qq6); intro gb101 hg w3 hbox hb; have BK101 := Aside0.mk (hbox); have GW101 := Aside0.mk ((qq9 : w.heap.size ≤ gb101)); have GE101 := Aside0.mk ((qq9 : w.heap.size ≤ gb101)); replace HB := Aside0.mk (below_step (qB HB.out) hb); clear hb hbox hg; obtain ⟨hcz4_0, hcz4_1, hcz4_2, hcz4_3, hcz4_4, hcz4_5, hfz4_0, hfz4_1, hfz4_2, hfz4_3, hfz4_4, hfz4_5⟩ := blk6 BK101.out) | ((with_reducible refine gate_callee (f := 35) rfl ?_); refine goesL_ (some 4) rfl rfl Try.func35 (by kernel_rfl) rfl #[.agg #[.int .i64 a0_0, .int .i64 a0_1, .int .i64 a0_2, .int .i64 a0_3, .int .i64 a0_4, .string a0_5]] rfl qq0 ?_; (with_reducible refine (wire_Right.calls k a0_0 a0_1 a0_2 a0_3 a0_4 a0_5 t102 _ A2.out).mono ?_); rintro e w5 ⟨rfl, hb⟩; refine ⟨_, rfl, ?_⟩; replace BK101 := Aside0.mk (blk_below (bq BK101.out) hb); replace HB := Aside0.mk (below_step (qS1 GE101 HB.out) hb); (try clear hb); (try clear hb2); (try clear hk); (try clear hi)))
  go_ret
  exact ⟨qq5, qS1 GE101 HB.out⟩
def smf_Parse_1.l0 : Nat → List (S28) → Int → Int → Option (Int)
  | 0, _, _, _ => none
  | k + 1, x0, x7, x8 => if x8 < x7 then (if 0 ≤ x8 then (if x8 < (x0.length : Int) then ((smf_Check_1.f k ((rd_T28 x0 x8).f0) ((rd_T28 x0 x8).f1) ((rd_T28 x0 x8).f2) ((rd_T28 x0 x8).f3) ((rd_T28 x0 x8).f4) ((rd_T28 x0 x8).f5)).bind fun t102 => (if t102 = true then (some x8) else (smf_Parse_1.l0 k x0 x7 (wrap64 (x8 + 1))))) else (none)) else (none)) else (some (-1))
def smf_Parse_1.f (k : Nat) (l0 : List (S28)) : Option (Int) := smf_Parse_1.l0 k l0 (l0.length : Int) 0
theorem smf_Parse_1.mono_l : ∀ k, (∀ y0 y1 y2, LeO (smf_Parse_1.l0 k y0 y1 y2) (smf_Parse_1.l0 (k + 1) y0 y1 y2))
  | 0 => fun _ _ _ r h => by simp [smf_Parse_1.l0] at h
  | k + 1 => by
    have ih0 := smf_Parse_1.mono_l k
    · intro y0 y1 y2
      unfold smf_Parse_1.l0
      repeat' first
      | (with_reducible exact ih0 _ _ _)
      | (with_reducible exact smf_Check_1.mono _ _ _ _ _ _ _)
      | (with_reducible exact LeO.refl _)
      | (with_reducible exact LeO.none _)
      | (with_reducible refine LeO.ite ?_ ?_)
      | (with_reducible refine LeO.bind ?_ (fun _ => ?_))
      | exact ih0 _ _ _
      | exact smf_Check_1.mono _ _ _ _ _ _ _
      | exact LeO.none _
      | refine LeO.ite ?_ ?_
      | refine LeO.bind ?_ (fun _ => ?_)
theorem smf_Parse_1.mono : ∀ a0 k, LeO (smf_Parse_1.f k a0) (smf_Parse_1.f (k + 1) a0) := by
  intro a0 k
  have ih0 := smf_Parse_1.mono_l k
  unfold smf_Parse_1.f
  repeat' first
      | (with_reducible exact ih0 _ _ _)
      | (with_reducible exact smf_Check_1.mono _ _ _ _ _ _ _)
      | (with_reducible exact LeO.refl _)
      | (with_reducible exact LeO.none _)
      | (with_reducible refine LeO.ite ?_ ?_)
      | (with_reducible refine LeO.bind ?_ (fun _ => ?_))
      | exact ih0 _ _ _
      | exact smf_Check_1.mono _ _ _ _ _ _ _
      | exact LeO.none _
      | refine LeO.ite ?_ ?_
      | refine LeO.bind ?_ (fun _ => ?_)
set_option maxHeartbeats 8000000 in
set_option maxRecDepth 100000 in
theorem smf_Parse_1.calls (k : Nat) (A0 : Option Addr) (c0 : Nat) (l0 : List (S28)) (r : Int) (w : World) (hr0 : Kd.C k28 w A0 l0.length l0) (hc0 : l0.length ≤ c0) (h : smf_Parse_1.f k l0 = some r) :
    Calls Try.prog 60 #[.slice A0 l0.length c0, .func (.func 38) #[] #[]] w fun e w' => e = .returned (.int .i64 r) ∧ Below w.heap.size w w' := by
  have hu28 := Try.underlying28
  have HR0 := Aside0.mk hr0
  have HC0 := Aside0.mk hc0
  clear hr0 hc0
  have HB := Aside0.mk (Below.refl w.heap.size w)
  have H := h
  unfold smf_Parse_1.f at H
  clear h
  have H' := Aside0.mk H
  clear H
  go_enter Try.func60, Try.ntmps60
  go_wp2
  go_loopg [8] k (fun kq v8 w' => ∃ (x8_1 : Int), v8 = .int .i64 x8_1 ∧ Aside0 (smf_Parse_1.l0 kq l0 (l0.length : Int) x8_1 = some r) ∧ Aside0 (kq ≤ k) ∧ Aside0 (Below w.heap.size w w'))
  case atStart => exact ⟨(0), qq8, H', ⟨Nat.le_refl _⟩, ⟨qB HB.out⟩⟩
  case round =>
    clear H'
    obtain ⟨x8_1, rfl, HA, HK1, HB⟩ := hrel
    cases gk with
    | zero => exact absurd HA.out (by simp [smf_Parse_1.l0])
    | succ k1 =>
      have H := HA.out
      clear HA
      simp only [smf_Parse_1.l0] at H
      by_cases c2 : x8_1 < (l0.length : Int)
      rotate_left
      · rw [if_neg c2] at H
        have c2b0 : decide (x8_1 < (l0.length : Int)) = false := decide_eq_false c2
        clear c2
        obtain rfl := Option.some.inj H
        go_wp2
        go_ret
        exact ⟨qq5, qB HB.out⟩
      rw [if_pos c2] at H
      have c2b0 : decide (x8_1 < (l0.length : Int)) = true := decide_eq_true c2
      clear c2
      by_cases c3 : 0 ≤ x8_1
      rotate_left
      · rw [if_neg c3] at H
        exact absurd H (by simp)
      rw [if_pos c3] at H
      have c3b0 : decide (0 ≤ x8_1) = true := decide_eq_true c3
      clear c3
      by_cases c4 : x8_1 < (l0.length : Int)
      rotate_left
      · rw [if_neg c4] at H
        exact absurd H (by simp)
      rw [if_pos c4] at H
      have c4b0 : decide (x8_1 < (l0.length : Int)) = true := decide_eq_true c4
      clear c4
      replace H := Option.bind_eq_some_iff.mp H
      obtain ⟨t102, A50, H⟩ := H
      try dsimp -simprocs only at H
      have A5 := Aside0.mk A50
      clear A50
      by_cases c6 : t102 = true
      · subst c6
        have H1 : (some x8_1) = some r := by rw [if_pos rfl] at H; exact H
        clear H
        have H := H1
        clear H1
        obtain rfl := Option.some.inj H
        have p101 : 0 ≤ (x8_1 : Int) := of_decide_eq_true qq4
        have q101 : x8_1 < (l0.length : Int) := of_decide_eq_true qq4
        obtain ⟨ad101, e101, hx101_0, hx101_1, hx101_2, hx101_3, hx101_4, hx101_5⟩ := at_T28 HR0.out x8_1 p101 q101
        cases e101
        replace hx101_0 := (HB.out.cell (World.block_lt_of_cell? w _ hx101_0)).trans hx101_0
        replace hx101_1 := (HB.out.cell (World.block_lt_of_cell? w _ hx101_1)).trans hx101_1
        replace hx101_2 := (HB.out.cell (World.block_lt_of_cell? w _ hx101_2)).trans hx101_2
        replace hx101_3 := (HB.out.cell (World.block_lt_of_cell? w _ hx101_3)).trans hx101_3
        replace hx101_4 := (HB.out.cell (World.block_lt_of_cell? w _ hx101_4)).trans hx101_4
        replace hx101_5 := (HB.out.cell (World.block_lt_of_cell? w _ hx101_5)).trans hx101_5
        replace p101 := eq_true p101
        replace q101 := eq_true q101
        go_wp2_with (first | (refine goesV_ (some 16) rfl rfl Try.func38 (by kernel_rfl) rfl #[.agg #[.int .i64 ((rd_T28 l0 x8_1).f0), .int .i64 ((rd_T28 l0 x8_1).f1), .int .i64 ((rd_T28 l0 x8_1).f2), .int .i64 ((rd_T28 l0 x8_1).f3), .int .i64 ((rd_T28 l0 x8_1).f4), .string ((rd_T28 l0 x8_1).f5)]] rfl qq0 ?_; (with_reducible refine (smf_Check_1.calls k1 ((rd_T28 l0 x8_1).f0) ((rd_T28 l0 x8_1).f1) ((rd_T28 l0 x8_1).f2) ((rd_T28 l0 x8_1).f3) ((rd_T28 l0 x8_1).f4) ((rd_T28 l0 x8_1).f5) true _ A5.out).mono ?_); rintro e w7 ⟨rfl, hb⟩; refine ⟨_, rfl, ?_⟩; replace HB := Aside0.mk (below_step (qB HB.out) hb); (try clear hb); (try clear hb2); (try clear hk); (try clear hi)))
        go_ret
        exact ⟨qq5, qB HB.out⟩
      replace c6 := Bool.eq_false_iff.mpr c6
      subst c6
      have H1 : (smf_Parse_1.l0 k1 l0 (l0.length : Int) (wrap64 (x8_1 + 1))) = some r := by rw [if_neg (show ¬ (false = true) by decide)] at H; exact H
      clear H
      have H := H1
      clear H1
      have H' := Aside0.mk H
      clear H
      have p101 : 0 ≤ (x8_1 : Int) := of_decide_eq_true qq4
      have q101 : x8_1 < (l0.length : Int) := of_decide_eq_true qq4
      obtain ⟨ad101, e101, hx101_0, hx101_1, hx101_2, hx101_3, hx101_4, hx101_5⟩ := at_T28 HR0.out x8_1 p101 q101
      cases e101
      replace hx101_0 := (HB.out.cell (World.block_lt_of_cell? w _ hx101_0)).trans hx101_0
      replace hx101_1 := (HB.out.cell (World.block_lt_of_cell? w _ hx101_1)).trans hx101_1
      replace hx101_2 := (HB.out.cell (World.block_lt_of_cell? w _ hx101_2)).trans hx101_2
      replace hx101_3 := (HB.out.cell (World.block_lt_of_cell? w _ hx101_3)).trans hx101_3
      replace hx101_4 := (HB.out.cell (World.block_lt_of_cell? w _ hx101_4)).trans hx101_4
      replace hx101_5 := (HB.out.cell (World.block_lt_of_cell? w _ hx101_5)).trans hx101_5
      replace p101 := eq_true p101
      replace q101 := eq_true q101
      go_wp2_with (first | (refine goesV_ (some 16) rfl rfl Try.func38 (by kernel_rfl) rfl #[.agg #[.int .i64 ((rd_T28 l0 x8_1).f0), .int .i64 ((rd_T28 l0 x8_1).f1), .int .i64 ((rd_T28 l0 x8_1).f2), .int .i64 ((rd_T28 l0 x8_1).f3), .int .i64 ((rd_T28 l0 x8_1).f4), .string ((rd_T28 l0 x8_1).f5)]] rfl qq0 ?_; (with_reducible refine (smf_Check_1.calls k1 ((rd_T28 l0 x8_1).f0) ((rd_T28 l0 x8_1).f1) ((rd_T28 l0 x8_1).f2) ((rd_T28 l0 x8_1).f3) ((rd_T28 l0 x8_1).f4) ((rd_T28 l0 x8_1).f5) false _ A5.out).mono ?_); rintro e w8 ⟨rfl, hb⟩; refine ⟨_, rfl, ?_⟩; replace HB := Aside0.mk (below_step (qB HB.out) hb); (try clear hb); (try clear hb2); (try clear hk); (try clear hi)))
      go_roundg k1
      case measure => have := HK1.out; omega
      case rel => exact ⟨(wrap64 (x8_1 + 1)), qq8, H', ⟨qq18⟩, ⟨qB HB.out⟩⟩
def api_Midi_39.f (k : Nat) (l0 : List (S28)) : Option (Bool) := (smf_Parse_1.f k l0).bind fun t101 => (some (decide (t101 ≥ 0)))
theorem api_Midi_39.mono : ∀ a0 k, LeO (api_Midi_39.f k a0) (api_Midi_39.f (k + 1) a0) := by
  intro a0 k
  unfold api_Midi_39.f
  repeat' first
      | (with_reducible exact smf_Parse_1.mono _ _)
      | (with_reducible exact LeO.refl _)
      | (with_reducible exact LeO.none _)
      | (with_reducible refine LeO.ite ?_ ?_)
      | (with_reducible refine LeO.bind ?_ (fun _ => ?_))
      | exact smf_Parse_1.mono _ _
      | exact LeO.none _
      | refine LeO.ite ?_ ?_
      | refine LeO.bind ?_ (fun _ => ?_)
set_option maxHeartbeats 8000000 in
set_option maxRecDepth 100000 in
theorem api_Midi_39.calls (k : Nat) (A0 : Option Addr) (c0 : Nat) (l0 : List (S28)) (r : Bool) (w : World) (hr0 : Kd.C k28 w A0 l0.length l0) (hc0 : l0.length ≤ c0) (h : api_Midi_39.f k l0 = some r) :
    Calls Try.prog 39 #[.slice A0 l0.length c0, .func (.func 38) #[] #[]] w fun e w' => e = .returned (.bool r) ∧ Below w.heap.size w w' := by
  have HR0 := Aside0.mk hr0
  have HC0 := Aside0.mk hc0
  clear hr0 hc0
  have HB := Aside0.mk (Below.refl w.heap.size w)
  have H := h
  unfold api_Midi_39.f at H
  clear h
  replace H := Option.bind_eq_some_iff.mp H
  obtain ⟨t101, A20, H⟩ := H
  try dsimp -simprocs only at H
  have A2 := Aside0.mk A20
  clear A20
  obtain rfl := Option.some.inj H
  go_enter Try.func39, Try.ntmps39
  go_wp2_with (first | ((with_reducible refine gate_callee (f := 60) rfl ?_); refine goesL_ (some 7) rfl rfl Try.func60 (by kernel_rfl) rfl #[.slice A0 l0.length c0, .func (.func 38) #[] #[]] rfl qq0 ?_; (with_reducible refine (smf_Parse_1.calls k _ _ l0 t101 _ ?side1 ?side2 A2.out).mono ?_); (case side1 => repeat (first | exact HR0.out | (with_reducible refine Kd.C_alloc ?_ _) | (with_reducible refine Kd.C_drewN ?_ _) | (with_reducible refine Kd.C_drew ?_))); (case side2 => exact HC0.out); rintro e w3 ⟨rfl, hb⟩; refine ⟨_, rfl, ?_⟩; replace HB := Aside0.mk (below_step (qB HB.out) hb); (try clear hb); (try clear hb2); (try clear hk); (try clear hi)))
  go_ret
  exact ⟨qq5, qB HB.out⟩
def smf_last.f (a0_0 : Int) (a0_1 : Int) (a0_2 : Int) (a0_3 : Int) (a0_4 : Int) (a0_5 : ByteArray) : Option (Bool) := if a0_1 = 16 then (if a0_3 = 47 then (some (a0_5.toList == ([] : List UInt8))) else (some false)) else (some false)
set_option maxHeartbeats 8000000 in
set_option maxRecDepth 100000 in
theorem smf_last.calls (a0_0 : Int) (a0_1 : Int) (a0_2 : Int) (a0_3 : Int) (a0_4 : Int) (a0_5 : ByteArray) (r : Bool) (w : World) (h : smf_last.f a0_0 a0_1 a0_2 a0_3 a0_4 a0_5 = some r) :
    Calls Try.prog 61 #[.agg #[.int .i64 a0_0, .int .i64 a0_1, .int .i64 a0_2, .int .i64 a0_3, .int .i64 a0_4, .string a0_5]] w fun e w' => e = .returned (.bool r) ∧ Below w.heap.size w w' := by
  have hu28 := Try.underlying28
  have HB := Aside0.mk (Below.refl w.heap.size w)
  have H := h
  unfold smf_last.f at H
  clear h
  by_cases c2 : a0_1 = 16
  rotate_left
  · rw [if_neg c2] at H
    have c2b0 : (a0_1 == 16) = false := beq_eq_false_iff_ne.mpr c2
    have c2b1 : (a0_1 != 16) = true := bne_iff_ne.mpr c2
    obtain rfl := Option.some.inj H
    go_enter Try.func61, Try.ntmps61
    go_wp2_with (first | ((with_reducible refine gate_dst (N := 1) rfl ?_); refine box_event ?hg (N := 1) ?hd (cs := #[.int .i64 a0_0, .int .i64 a0_1, .int .i64 a0_2, .int .i64 a0_3, .int .i64 a0_4, .string a0_5]) (t := 28) ?hr ?_; (case hd => rfl); (case hg => rfl); (case hr => exact qq6); intro gb101 hg w8 hbox hb; have BK101 := Aside0.mk (hbox); have GW101 := Aside0.mk ((qq9 : w.heap.size ≤ gb101)); have GE101 := Aside0.mk ((qq9 : w.heap.size ≤ gb101)); replace HB := Aside0.mk (below_step (qB HB.out) hb); clear hb hbox hg; obtain ⟨hcz9_0, hcz9_1, hcz9_2, hcz9_3, hcz9_4, hcz9_5, hfz9_0, hfz9_1, hfz9_2, hfz9_3, hfz9_4, hfz9_5⟩ := blk6 BK101.out))
    go_ret
    exact ⟨qq5, qS1 GE101 HB.out⟩
  rw [if_pos c2] at H
  have c2b0 : (a0_1 == 16) = true := beq_iff_eq.mpr c2
  have c2b1 : (a0_1 != 16) = false := bne_eq_false_iff_eq.mpr c2
  clear c2
  by_cases c3 : a0_3 = 47
  rotate_left
  · rw [if_neg c3] at H
    have c3b0 : (a0_3 == 47) = false := beq_eq_false_iff_ne.mpr c3
    have c3b1 : (a0_3 != 47) = true := bne_iff_ne.mpr c3
    obtain rfl := Option.some.inj H
    go_enter Try.func61, Try.ntmps61
    go_wp2_with (first | ((with_reducible refine gate_dst (N := 1) rfl ?_); refine box_event ?hg (N := 1) ?hd (cs := #[.int .i64 a0_0, .int .i64 a0_1, .int .i64 a0_2, .int .i64 a0_3, .int .i64 a0_4, .string a0_5]) (t := 28) ?hr ?_; (case hd => rfl); (case hg => rfl); (case hr => exact qq6); intro gb101 hg w6 hbox hb; have BK101 := Aside0.mk (hbox); have GW101 := Aside0.mk ((qq9 : w.heap.size ≤ gb101)); have GE101 := Aside0.mk ((qq9 : w.heap.size ≤ gb101)); replace HB := Aside0.mk (below_step (qB HB.out) hb); clear hb hbox hg; obtain ⟨hcz7_0, hcz7_1, hcz7_2, hcz7_3, hcz7_4, hcz7_5, hfz7_0, hfz7_1, hfz7_2, hfz7_3, hfz7_4, hfz7_5⟩ := blk6 BK101.out))
    go_ret
    exact ⟨qq5, qS1 GE101 HB.out⟩
  rw [if_pos c3] at H
  have c3b0 : (a0_3 == 47) = true := beq_iff_eq.mpr c3
  have c3b1 : (a0_3 != 47) = false := bne_eq_false_iff_eq.mpr c3
  clear c3
  obtain rfl := Option.some.inj H
  go_enter Try.func61, Try.ntmps61
  go_wp2_with (first | ((with_reducible refine gate_dst (N := 1) rfl ?_); refine box_event ?hg (N := 1) ?hd (cs := #[.int .i64 a0_0, .int .i64 a0_1, .int .i64 a0_2, .int .i64 a0_3, .int .i64 a0_4, .string a0_5]) (t := 28) ?hr ?_; (case hd => rfl); (case hg => rfl); (case hr => exact qq6); intro gb101 hg w4 hbox hb; have BK101 := Aside0.mk (hbox); have GW101 := Aside0.mk ((qq9 : w.heap.size ≤ gb101)); have GE101 := Aside0.mk ((qq9 : w.heap.size ≤ gb101)); replace HB := Aside0.mk (below_step (qB HB.out) hb); clear hb hbox hg; obtain ⟨hcz5_0, hcz5_1, hcz5_2, hcz5_3, hcz5_4, hcz5_5, hfz5_0, hfz5_1, hfz5_2, hfz5_3, hfz5_4, hfz5_5⟩ := blk6 BK101.out))
  go_ret
  exact ⟨qq5, qS1 GE101 HB.out⟩
def api_Midi_60.l0 : Nat → List (S28) → Int → Int → Option (Int)
  | 0, _, _, _ => none
  | k + 1, x0, x7, x8 => if x8 < x7 then (if 0 ≤ x8 then (if x8 < (x0.length : Int) then ((smf_last.f ((rd_T28 x0 x8).f0) ((rd_T28 x0 x8).f1) ((rd_T28 x0 x8).f2) ((rd_T28 x0 x8).f3) ((rd_T28 x0 x8).f4) ((rd_T28 x0 x8).f5)).bind fun t102 => (if t102 = true then (some x8) else (api_Midi_60.l0 k x0 x7 (wrap64 (x8 + 1))))) else (none)) else (none)) else (some (-1))
def api_Midi_60.f (k : Nat) (l0 : List (S28)) : Option (Int) := api_Midi_60.l0 k l0 (l0.length : Int) 0
theorem api_Midi_60.mono_l : ∀ k, (∀ y0 y1 y2, LeO (api_Midi_60.l0 k y0 y1 y2) (api_Midi_60.l0 (k + 1) y0 y1 y2))
  | 0 => fun _ _ _ r h => by simp [api_Midi_60.l0] at h
  | k + 1 => by
    have ih0 := api_Midi_60.mono_l k
    · intro y0 y1 y2
      unfold api_Midi_60.l0
      repeat' first
      | (with_reducible exact ih0 _ _ _)
      | (with_reducible exact LeO.refl _)
      | (with_reducible exact LeO.none _)
      | (with_reducible refine LeO.ite ?_ ?_)
      | (with_reducible refine LeO.bind ?_ (fun _ => ?_))
      | exact ih0 _ _ _
      | exact LeO.none _
      | refine LeO.ite ?_ ?_
      | refine LeO.bind ?_ (fun _ => ?_)
theorem api_Midi_60.mono : ∀ a0 k, LeO (api_Midi_60.f k a0) (api_Midi_60.f (k + 1) a0) := by
  intro a0 k
  have ih0 := api_Midi_60.mono_l k
  unfold api_Midi_60.f
  repeat' first
      | (with_reducible exact ih0 _ _ _)
      | (with_reducible exact LeO.refl _)
      | (with_reducible exact LeO.none _)
      | (with_reducible refine LeO.ite ?_ ?_)
      | (with_reducible refine LeO.bind ?_ (fun _ => ?_))
      | exact ih0 _ _ _
      | exact LeO.none _
      | refine LeO.ite ?_ ?_
      | refine LeO.bind ?_ (fun _ => ?_)
set_option maxHeartbeats 8000000 in
set_option maxRecDepth 100000 in
theorem api_Midi_60.calls (k : Nat) (A0 : Option Addr) (c0 : Nat) (l0 : List (S28)) (r : Int) (w : World) (hr0 : Kd.C k28 w A0 l0.length l0) (hc0 : l0.length ≤ c0) (h : api_Midi_60.f k l0 = some r) :
    Calls Try.prog 60 #[.slice A0 l0.length c0, .func (.func 61) #[] #[]] w fun e w' => e = .returned (.int .i64 r) ∧ Below w.heap.size w w' := by
  have hu28 := Try.underlying28
  have HR0 := Aside0.mk hr0
  have HC0 := Aside0.mk hc0
  clear hr0 hc0
  have HB := Aside0.mk (Below.refl w.heap.size w)
  have H := h
  unfold api_Midi_60.f at H
  clear h
  have H' := Aside0.mk H
  clear H
  go_enter Try.func60, Try.ntmps60
  go_wp2
  go_loopg [8] k (fun kq v8 w' => ∃ (x8_1 : Int), v8 = .int .i64 x8_1 ∧ Aside0 (api_Midi_60.l0 kq l0 (l0.length : Int) x8_1 = some r) ∧ Aside0 (kq ≤ k) ∧ Aside0 (Below w.heap.size w w'))
  case atStart => exact ⟨(0), qq8, H', ⟨Nat.le_refl _⟩, ⟨qB HB.out⟩⟩
  case round =>
    clear H'
    obtain ⟨x8_1, rfl, HA, HK1, HB⟩ := hrel
    cases gk with
    | zero => exact absurd HA.out (by simp [api_Midi_60.l0])
    | succ k1 =>
      have H := HA.out
      clear HA
      simp only [api_Midi_60.l0] at H
      by_cases c2 : x8_1 < (l0.length : Int)
      rotate_left
      · rw [if_neg c2] at H
        have c2b0 : decide (x8_1 < (l0.length : Int)) = false := decide_eq_false c2
        clear c2
        obtain rfl := Option.some.inj H
        go_wp2
        go_ret
        exact ⟨qq5, qB HB.out⟩
      rw [if_pos c2] at H
      have c2b0 : decide (x8_1 < (l0.length : Int)) = true := decide_eq_true c2
      clear c2
      by_cases c3 : 0 ≤ x8_1
      rotate_left
      · rw [if_neg c3] at H
        exact absurd H (by simp)
      rw [if_pos c3] at H
      have c3b0 : decide (0 ≤ x8_1) = true := decide_eq_true c3
      clear c3
      by_cases c4 : x8_1 < (l0.length : Int)
      rotate_left
      · rw [if_neg c4] at H
        exact absurd H (by simp)
      rw [if_pos c4] at H
      have c4b0 : decide (x8_1 < (l0.length : Int)) = true := decide_eq_true c4
      clear c4
      replace H := Option.bind_eq_some_iff.mp H
      obtain ⟨t102, A50, H⟩ := H
      try dsimp -simprocs only at H
      have A5 := Aside0.mk A50
      clear A50
      by_cases c6 : t102 = true
      · subst c6
        have H1 : (some x8_1) = some r := by rw [if_pos rfl] at H; exact H
        clear H
        have H := H1
        clear H1
        obtain rfl := Option.some.inj H
        have p101 : 0 ≤ (x8_1 : Int) := of_decide_eq_true qq4
        have q101 : x8_1 < (l0.length : Int) := of_decide_eq_true qq4
        obtain ⟨ad101, e101, hx101_0, hx101_1, hx101_2, hx101_3, hx101_4, hx101_5⟩ := at_T28 HR0.out x8_1 p101 q101
        cases e101
        replace hx101_0 := (HB.out.cell (World.block_lt_of_cell? w _ hx101_0)).trans hx101_0
        replace hx101_1 := (HB.out.cell (World.block_lt_of_cell? w _ hx101_1)).trans hx101_1
        replace hx101_2 := (HB.out.cell (World.block_lt_of_cell? w _ hx101_2)).trans hx101_2
        replace hx101_3 := (HB.out.cell (World.block_lt_of_cell? w _ hx101_3)).trans hx101_3
        replace hx101_4 := (HB.out.cell (World.block_lt_of_cell? w _ hx101_4)).trans hx101_4
        replace hx101_5 := (HB.out.cell (World.block_lt_of_cell? w _ hx101_5)).trans hx101_5
        replace p101 := eq_true p101
        replace q101 := eq_true q101
        go_wp2_with (first | (refine goesV_ (some 16) rfl rfl Try.func61 (by kernel_rfl) rfl #[.agg #[.int .i64 ((rd_T28 l0 x8_1).f0), .int .i64 ((rd_T28 l0 x8_1).f1), .int .i64 ((rd_T28 l0 x8_1).f2), .int .i64 ((rd_T28 l0 x8_1).f3), .int .i64 ((rd_T28 l0 x8_1).f4), .string ((rd_T28 l0 x8_1).f5)]] rfl qq0 ?_; (with_reducible refine (smf_last.calls ((rd_T28 l0 x8_1).f0) ((rd_T28 l0 x8_1).f1) ((rd_T28 l0 x8_1).f2) ((rd_T28 l0 x8_1).f3) ((rd_T28 l0 x8_1).f4) ((rd_T28 l0 x8_1).f5) true _ A5.out).mono ?_); rintro e w7 ⟨rfl, hb⟩; refine ⟨_, rfl, ?_⟩; replace HB := Aside0.mk (below_step (qB HB.out) hb); (try clear hb); (try clear hb2); (try clear hk); (try clear hi)))
        go_ret
        exact ⟨qq5, qB HB.out⟩
      replace c6 := Bool.eq_false_iff.mpr c6
      subst c6
      have H1 : (api_Midi_60.l0 k1 l0 (l0.length : Int) (wrap64 (x8_1 + 1))) = some r := by rw [if_neg (show ¬ (false = true) by decide)] at H; exact H
      clear H
      have H := H1
      clear H1
      have H' := Aside0.mk H
      clear H
      have p101 : 0 ≤ (x8_1 : Int) := of_decide_eq_true qq4
      have q101 : x8_1 < (l0.length : Int) := of_decide_eq_true qq4
      obtain ⟨ad101, e101, hx101_0, hx101_1, hx101_2, hx101_3, hx101_4, hx101_5⟩ := at_T28 HR0.out x8_1 p101 q101
      cases e101
      replace hx101_0 := (HB.out.cell (World.block_lt_of_cell? w _ hx101_0)).trans hx101_0
      replace hx101_1 := (HB.out.cell (World.block_lt_of_cell? w _ hx101_1)).trans hx101_1
      replace hx101_2 := (HB.out.cell (World.block_lt_of_cell? w _ hx101_2)).trans hx101_2
      replace hx101_3 := (HB.out.cell (World.block_lt_of_cell? w _ hx101_3)).trans hx101_3
      replace hx101_4 := (HB.out.cell (World.block_lt_of_cell? w _ hx101_4)).trans hx101_4
      replace hx101_5 := (HB.out.cell (World.block_lt_of_cell? w _ hx101_5)).trans hx101_5
      replace p101 := eq_true p101
      replace q101 := eq_true q101
      go_wp2_with (first | (refine goesV_ (some 16) rfl rfl Try.func61 (by kernel_rfl) rfl #[.agg #[.int .i64 ((rd_T28 l0 x8_1).f0), .int .i64 ((rd_T28 l0 x8_1).f1), .int .i64 ((rd_T28 l0 x8_1).f2), .int .i64 ((rd_T28 l0 x8_1).f3), .int .i64 ((rd_T28 l0 x8_1).f4), .string ((rd_T28 l0 x8_1).f5)]] rfl qq0 ?_; (with_reducible refine (smf_last.calls ((rd_T28 l0 x8_1).f0) ((rd_T28 l0 x8_1).f1) ((rd_T28 l0 x8_1).f2) ((rd_T28 l0 x8_1).f3) ((rd_T28 l0 x8_1).f4) ((rd_T28 l0 x8_1).f5) false _ A5.out).mono ?_); rintro e w8 ⟨rfl, hb⟩; refine ⟨_, rfl, ?_⟩; replace HB := Aside0.mk (below_step (qB HB.out) hb); (try clear hb); (try clear hb2); (try clear hk); (try clear hi)))
      go_roundg k1
      case measure => have := HK1.out; omega
      case rel => exact ⟨(wrap64 (x8_1 + 1)), qq8, H', ⟨qq18⟩, ⟨qB HB.out⟩⟩
def smf_ends.f (k : Nat) (l0 : List (S28)) : Option (Bool) := if (l0.length : Int) > 0 then ((api_Midi_60.f k l0).bind fun t101 => (some (t101 == (wrap64 ((l0.length : Int) - 1))))) else (some false)
theorem smf_ends.mono : ∀ a0 k, LeO (smf_ends.f k a0) (smf_ends.f (k + 1) a0) := by
  intro a0 k
  unfold smf_ends.f
  repeat' first
      | (with_reducible exact api_Midi_60.mono _ _)
      | (with_reducible exact LeO.refl _)
      | (with_reducible exact LeO.none _)
      | (with_reducible refine LeO.ite ?_ ?_)
      | (with_reducible refine LeO.bind ?_ (fun _ => ?_))
      | exact api_Midi_60.mono _ _
      | exact LeO.none _
      | refine LeO.ite ?_ ?_
      | refine LeO.bind ?_ (fun _ => ?_)
set_option maxHeartbeats 8000000 in
set_option maxRecDepth 100000 in
theorem smf_ends.calls (k : Nat) (A0 : Option Addr) (c0 : Nat) (l0 : List (S28)) (r : Bool) (w : World) (hr0 : Kd.C k28 w A0 l0.length l0) (hc0 : l0.length ≤ c0) (h : smf_ends.f k l0 = some r) :
    Calls Try.prog 40 #[.slice A0 l0.length c0] w fun e w' => e = .returned (.bool r) ∧ Below w.heap.size w w' := by
  have HR0 := Aside0.mk hr0
  have HC0 := Aside0.mk hc0
  clear hr0 hc0
  have HB := Aside0.mk (Below.refl w.heap.size w)
  have H := h
  unfold smf_ends.f at H
  clear h
  by_cases c2 : (l0.length : Int) > 0
  rotate_left
  · rw [if_neg c2] at H
    have c2b0 : decide (0 < (l0.length : Int)) = false := decide_eq_false c2
    have c2b1 : decide (0 < l0.length) = false := decide_eq_false (by omega)
    clear c2
    obtain rfl := Option.some.inj H
    go_enter Try.func40, Try.ntmps40
    go_wp2
    go_ret
    exact ⟨qq5, qB HB.out⟩
  rw [if_pos c2] at H
  have c2b0 : decide (0 < (l0.length : Int)) = true := decide_eq_true c2
  have c2b1 : decide (0 < l0.length) = true := decide_eq_true (by omega)
  clear c2
  replace H := Option.bind_eq_some_iff.mp H
  obtain ⟨t101, A30, H⟩ := H
  try dsimp -simprocs only at H
  have A3 := Aside0.mk A30
  clear A30
  obtain rfl := Option.some.inj H
  go_enter Try.func40, Try.ntmps40
  go_wp2_with (first | (go_at_call 60; (with_reducible refine (api_Midi_60.calls k _ _ l0 t101 _ ?side1 ?side2 A3.out).mono ?_); (case side1 => repeat (first | exact HR0.out | (with_reducible refine Kd.C_alloc ?_ _) | (with_reducible refine Kd.C_drewN ?_ _) | (with_reducible refine Kd.C_drew ?_))); (case side2 => exact HC0.out); rintro e w4 ⟨rfl, hb⟩; replace HB := Aside0.mk (below_step (qB HB.out) hb); (try clear hb); (try clear hb2); (try clear hk); (try clear hi)))
  go_ret
  exact ⟨qq5, qB HB.out⟩
mutual
def smf_Check.j0 : Nat → Bool → Int → Int → List (List (S28)) → Option (Int × Int)
  | 0, _, _, _, _ => none
  | k + 1, x45, x102000, x102001, x102002 => if x45 = true then (some (0, 160)) else (smf_Check.l0 k x102002 (x102002.length : Int) 0)
def smf_Check.l0 : Nat → List (List (S28)) → Int → Int → Option (Int × Int)
  | 0, _, _, _ => none
  | k + 1, x47, x48, x49 => if x49 < x48 then (if 0 ≤ x49 then (if x49 < (x47.length : Int) then ((api_Midi_39.f k (rd_L3 x47 x49)).bind fun t103 => (if t103 = true then (some (x49, 151)) else ((smf_ends.f k (rd_L3 x47 x49)).bind fun t104 => (if t104 = true then (smf_Check.l0 k x47 x48 (wrap64 (x49 + 1))) else (some (x49, 160)))))) else (none)) else (none)) else (some (0, 0))
end
def smf_Check.f (k : Nat) (a0_0 : Int) (a0_1 : Int) (l0_2 : List (List (S28))) : Option (Int × Int) := if a0_0 < 0 then (smf_Check.j0 k true a0_0 a0_1 l0_2) else (if a0_0 > 1 then (smf_Check.j0 k true a0_0 a0_1 l0_2) else (if a0_1 < 1 then (smf_Check.j0 k true a0_0 a0_1 l0_2) else (if a0_1 > 32767 then (smf_Check.j0 k true a0_0 a0_1 l0_2) else (if (l0_2.length : Int) < 1 then (smf_Check.j0 k true a0_0 a0_1 l0_2) else (if (l0_2.length : Int) > 16 then (smf_Check.j0 k true a0_0 a0_1 l0_2) else (if (l0_2.length : Int) > 1 then (smf_Check.j0 k (a0_0 == 0) a0_0 a0_1 l0_2) else (smf_Check.j0 k false a0_0 a0_1 l0_2)))))))
theorem smf_Check.mono_l : ∀ k, (∀ y0 y1 y2 y3, LeO (smf_Check.j0 k y0 y1 y2 y3) (smf_Check.j0 (k + 1) y0 y1 y2 y3)) ∧ (∀ y0 y1 y2, LeO (smf_Check.l0 k y0 y1 y2) (smf_Check.l0 (k + 1) y0 y1 y2))
  | 0 => ⟨fun _ _ _ _ r h => by simp [smf_Check.j0] at h, fun _ _ _ r h => by simp [smf_Check.l0] at h⟩
  | k + 1 => by
    obtain ⟨ih0, ih1⟩ := smf_Check.mono_l k
    refine ⟨?_, ?_⟩
    · intro y0 y1 y2 y3
      unfold smf_Check.j0
      repeat' first
      | (with_reducible exact ih0 _ _ _ _)
      | (with_reducible exact ih1 _ _ _)
      | (with_reducible exact api_Midi_39.mono _ _)
      | (with_reducible exact smf_ends.mono _ _)
      | (with_reducible exact LeO.refl _)
      | (with_reducible exact LeO.none _)
      | (with_reducible refine LeO.ite ?_ ?_)
      | (with_reducible refine LeO.bind ?_ (fun _ => ?_))
      | exact ih0 _ _ _ _
      | exact ih1 _ _ _
      | exact api_Midi_39.mono _ _
      | exact smf_ends.mono _ _
      | exact LeO.none _
      | refine LeO.ite ?_ ?_
      | refine LeO.bind ?_ (fun _ => ?_)
    · intro y0 y1 y2
      unfold smf_Check.l0
      repeat' first
      | (with_reducible exact ih0 _ _ _ _)
      | (with_reducible exact ih1 _ _ _)
      | (with_reducible exact api_Midi_39.mono _ _)
      | (with_reducible exact smf_ends.mono _ _)
      | (with_reducible exact LeO.refl _)
      | (with_reducible exact LeO.none _)
      | (with_reducible refine LeO.ite ?_ ?_)
      | (with_reducible refine LeO.bind ?_ (fun _ => ?_))
      | exact ih0 _ _ _ _
      | exact ih1 _ _ _
      | exact api_Midi_39.mono _ _
      | exact smf_ends.mono _ _
      | exact LeO.none _
      | refine LeO.ite ?_ ?_
      | refine LeO.bind ?_ (fun _ => ?_)
theorem smf_Check.mono : ∀ a0 a1 a2 k, LeO (smf_Check.f k a0 a1 a2) (smf_Check.f (k + 1) a0 a1 a2) := by
  intro a0 a1 a2 k
  obtain ⟨ih0, ih1⟩ := smf_Check.mono_l k
  unfold smf_Check.f
  repeat' first
      | (with_reducible exact ih0 _ _ _ _)
      | (with_reducible exact ih1 _ _ _)
      | (with_reducible exact api_Midi_39.mono _ _)
      | (with_reducible exact smf_ends.mono _ _)
      | (with_reducible exact LeO.refl _)
      | (with_reducible exact LeO.none _)
      | (with_reducible refine LeO.ite ?_ ?_)
      | (with_reducible refine LeO.bind ?_ (fun _ => ?_))
      | exact ih0 _ _ _ _
      | exact ih1 _ _ _
      | exact api_Midi_39.mono _ _
      | exact smf_ends.mono _ _
      | exact LeO.none _
      | refine LeO.ite ?_ ?_
      | refine LeO.bind ?_ (fun _ => ?_)
set_option maxHeartbeats 8000000 in
set_option maxRecDepth 100000 in
theorem smf_Check.calls (k : Nat) (a0_0 : Int) (a0_1 : Int) (A0_2 : Option Addr) (c0_2 : Nat) (l0_2 : List (List (S28))) (r1 : Int) (r2 : Int) (w : World) (hr0_2 : Kd.C (Kd.slice 28 k28) w A0_2 l0_2.length l0_2) (hc0_2 : l0_2.length ≤ c0_2) (h : smf_Check.f k a0_0 a0_1 l0_2 = some (r1, r2)) :
    Calls Try.prog 24 #[.agg #[.int .i64 a0_0, .int .i64 a0_1, .slice A0_2 l0_2.length c0_2]] w fun e w' => e = .returned (.tuple #[.int .i64 r1, .int .i64 r2]) ∧ Below w.heap.size w w' := by
  have hu24 := Try.underlying24
  have HR0_2 := Aside0.mk hr0_2
  have HC0_2 := Aside0.mk hc0_2
  clear hr0_2 hc0_2
  have HB := Aside0.mk (Below.refl w.heap.size w)
  have H := h
  unfold smf_Check.f at H
  clear h
  have HC2 := Aside0.mk H
  clear H
  go_enter Try.func24, Try.ntmps24
  go_upto_region 2 with (first | ((with_reducible refine gate_dst (N := 1) rfl ?_); refine box_event ?hg (N := 1) ?hd (cs := #[.int .i64 a0_0, .int .i64 a0_1, .slice A0_2 l0_2.length c0_2]) (t := 24) ?hr ?_; (case hd => rfl); (case hg => rfl); (case hr => exact qq6); intro gb101 hg w3 hbox hb; have BK101 := Aside0.mk (hbox); have GW101 := Aside0.mk ((qq9 : w.heap.size ≤ gb101)); have GE101 := Aside0.mk ((qq9 : w.heap.size ≤ gb101)); replace HB := Aside0.mk (below_step (qB HB.out) hb); clear hb hbox hg; obtain ⟨hcz4_0, hcz4_1, hcz4_2, hfz4_0, hfz4_1, hfz4_2⟩ := blk3 BK101.out))
  (try simp only [Act.put, List.setIfInBounds_toArray, List.set_cons_zero, List.set_cons_succ])
  go_cut [45] (fun v45 wc => ∃ (kq : Nat) (x45_1 : Bool), v45 = .bool x45_1 ∧ Aside0 (smf_Check.j0 kq x45_1 a0_0 a0_1 l0_2 = some (r1, r2)) ∧ Aside0 (kq ≤ k) ∧ Aside0 (wc.heap[gb101]? = some (.cells #[.int .i64 a0_0, .int .i64 a0_1, (.slice A0_2 l0_2.length c0_2)] 24 (0, 0))) ∧ Aside0 (Below w.heap.size w wc))
  case first =>
    have H := HC2.out
    clear HC2
    by_cases c5 : a0_0 < 0
    · rw [if_pos c5] at H
      have c5b0 : decide (a0_0 < 0) = true := decide_eq_true c5
      clear c5
      (first | rw [c5b0] | (simp only [i64_w, i32_w]; rw [c5b0]) | skip)
      have H' := Aside0.mk H
      clear H
      obtain ⟨hcz6_0, hcz6_1, hcz6_2, hfz6_0, hfz6_1, hfz6_2⟩ := blk3 BK101.out
      go_wp2
      go_meet
      case rel => exact ⟨_, (true), qq8, H', ⟨qqA⟩, ⟨bq BK101.out⟩, ⟨qS1 GE101 HB.out⟩⟩
    rw [if_neg c5] at H
    have c5b0 : decide (a0_0 < 0) = false := decide_eq_false c5
    clear c5
    (first | rw [c5b0] | (simp only [i64_w, i32_w]; rw [c5b0]) | skip)
    by_cases c7 : a0_0 > 1
    · rw [if_pos c7] at H
      have c7b0 : decide (1 < a0_0) = true := decide_eq_true c7
      clear c7
      have H' := Aside0.mk H
      clear H
      obtain ⟨hcz8_0, hcz8_1, hcz8_2, hfz8_0, hfz8_1, hfz8_2⟩ := blk3 BK101.out
      go_wp2
      go_meet
      case rel => exact ⟨_, (true), qq8, H', ⟨qqA⟩, ⟨bq BK101.out⟩, ⟨qS1 GE101 HB.out⟩⟩
    rw [if_neg c7] at H
    have c7b0 : decide (1 < a0_0) = false := decide_eq_false c7
    clear c7
    by_cases c9 : a0_1 < 1
    · rw [if_pos c9] at H
      have c9b0 : decide (a0_1 < 1) = true := decide_eq_true c9
      clear c9
      have H' := Aside0.mk H
      clear H
      obtain ⟨hcz10_0, hcz10_1, hcz10_2, hfz10_0, hfz10_1, hfz10_2⟩ := blk3 BK101.out
      go_wp2
      go_meet
      case rel => exact ⟨_, (true), qq8, H', ⟨qqA⟩, ⟨bq BK101.out⟩, ⟨qS1 GE101 HB.out⟩⟩
    rw [if_neg c9] at H
    have c9b0 : decide (a0_1 < 1) = false := decide_eq_false c9
    clear c9
    by_cases c11 : a0_1 > 32767
    · rw [if_pos c11] at H
      have c11b0 : decide (32767 < a0_1) = true := decide_eq_true c11
      clear c11
      have H' := Aside0.mk H
      clear H
      obtain ⟨hcz12_0, hcz12_1, hcz12_2, hfz12_0, hfz12_1, hfz12_2⟩ := blk3 BK101.out
      go_wp2
      go_meet
      case rel => exact ⟨_, (true), qq8, H', ⟨qqA⟩, ⟨bq BK101.out⟩, ⟨qS1 GE101 HB.out⟩⟩
    rw [if_neg c11] at H
    have c11b0 : decide (32767 < a0_1) = false := decide_eq_false c11
    clear c11
    by_cases c13 : (l0_2.length : Int) < 1
    · rw [if_pos c13] at H
      have c13b0 : decide ((l0_2.length : Int) < 1) = true := decide_eq_true c13
      have c13b1 : decide (l0_2.length < 1) = true := decide_eq_true (by omega)
      clear c13
      have H' := Aside0.mk H
      clear H
      obtain ⟨hcz14_0, hcz14_1, hcz14_2, hfz14_0, hfz14_1, hfz14_2⟩ := blk3 BK101.out
      go_wp2
      go_meet
      case rel => exact ⟨_, (true), qq8, H', ⟨qqA⟩, ⟨bq BK101.out⟩, ⟨qS1 GE101 HB.out⟩⟩
    rw [if_neg c13] at H
    have c13b0 : decide ((l0_2.length : Int) < 1) = false := decide_eq_false c13
    have c13b1 : decide (l0_2.length < 1) = false := decide_eq_false (by omega)
    clear c13
    by_cases c15 : (l0_2.length : Int) > 16
    · rw [if_pos c15] at H
      have c15b0 : decide (16 < (l0_2.length : Int)) = true := decide_eq_true c15
      have c15b1 : decide (16 < l0_2.length) = true := decide_eq_true (by omega)
      clear c15
      have H' := Aside0.mk H
      clear H
      obtain ⟨hcz16_0, hcz16_1, hcz16_2, hfz16_0, hfz16_1, hfz16_2⟩ := blk3 BK101.out
      go_wp2
      go_meet
      case rel => exact ⟨_, (true), qq8, H', ⟨qqA⟩, ⟨bq BK101.out⟩, ⟨qS1 GE101 HB.out⟩⟩
    rw [if_neg c15] at H
    have c15b0 : decide (16 < (l0_2.length : Int)) = false := decide_eq_false c15
    have c15b1 : decide (16 < l0_2.length) = false := decide_eq_false (by omega)
    clear c15
    by_cases c17 : (l0_2.length : Int) > 1
    · rw [if_pos c17] at H
      have c17b0 : decide (1 < (l0_2.length : Int)) = true := decide_eq_true c17
      have c17b1 : decide (1 < l0_2.length) = true := decide_eq_true (by omega)
      clear c17
      have H' := Aside0.mk H
      clear H
      obtain ⟨hcz18_0, hcz18_1, hcz18_2, hfz18_0, hfz18_1, hfz18_2⟩ := blk3 BK101.out
      go_wp2
      go_meet
      case rel => exact ⟨_, ((a0_0 == 0)), qq8, H', ⟨qqA⟩, ⟨bq BK101.out⟩, ⟨qS1 GE101 HB.out⟩⟩
    rw [if_neg c17] at H
    have c17b0 : decide (1 < (l0_2.length : Int)) = false := decide_eq_false c17
    have c17b1 : decide (1 < l0_2.length) = false := decide_eq_false (by omega)
    clear c17
    have H' := Aside0.mk H
    clear H
    obtain ⟨hcz19_0, hcz19_1, hcz19_2, hfz19_0, hfz19_1, hfz19_2⟩ := blk3 BK101.out
    go_wp2
    go_meet
    case rel => exact ⟨_, (false), qq8, H', ⟨qqA⟩, ⟨bq BK101.out⟩, ⟨qS1 GE101 HB.out⟩⟩
  case rest =>
    clear HC2
    try clear c1
    try clear c2
    try clear p2
    try clear c5
    try clear c5b0
    try clear c7
    try clear c7b0
    try clear c9
    try clear c9b0
    try clear c11
    try clear c11b0
    try clear c13
    try clear c13b0
    try clear c13b1
    try clear c15
    try clear c15b0
    try clear c15b1
    try clear c17
    try clear c17b0
    try clear c17b1
    try clear hcz10_0
    try clear hcz10_1
    try clear hcz10_2
    try clear hcz12_0
    try clear hcz12_1
    try clear hcz12_2
    try clear hcz14_0
    try clear hcz14_1
    try clear hcz14_2
    try clear hcz16_0
    try clear hcz16_1
    try clear hcz16_2
    try clear hcz18_0
    try clear hcz18_1
    try clear hcz18_2
    try clear hcz19_0
    try clear hcz19_1
    try clear hcz19_2
    try clear hcz4_0
    try clear hcz4_1
    try clear hcz4_2
    try clear hcz6_0
    try clear hcz6_1
    try clear hcz6_2
    try clear hcz8_0
    try clear hcz8_1
    try clear hcz8_2
    try clear hfz10_0
    try clear hfz10_1
    try clear hfz10_2
    try clear hfz12_0
    try clear hfz12_1
    try clear hfz12_2
    try clear hfz14_0
    try clear hfz14_1
    try clear hfz14_2
    try clear hfz16_0
    try clear hfz16_1
    try clear hfz16_2
    try clear hfz18_0
    try clear hfz18_1
    try clear hfz18_2
    try clear hfz19_0
    try clear hfz19_1
    try clear hfz19_2
    try clear hfz4_0
    try clear hfz4_1
    try clear hfz4_2
    try clear hfz6_0
    try clear hfz6_1
    try clear hfz6_2
    try clear hfz8_0
    try clear hfz8_1
    try clear hfz8_2
    obtain ⟨kq, x45_1, rfl, HA, HJ1, BK101, HB⟩ := hcut
    cases kq with
    | zero => exact absurd HA.out (by simp [smf_Check.j0])
    | succ kj1 =>
      have H := HA.out
      clear HA
      simp only [smf_Check.j0] at H
      by_cases c20 : x45_1 = true
      · subst c20
        have H1 : (some (0, 160)) = some (r1, r2) := by rw [if_pos rfl] at H; exact H
        clear H
        have H := H1
        clear H1
        simp only [Option.some.injEq, Prod.mk.injEq] at H
        obtain ⟨rfl, rfl⟩ := H
        go_wp2
        go_ret2
        exact ⟨qq5, qS1 GE101 HB.out⟩
      replace c20 := Bool.eq_false_iff.mpr c20
      subst c20
      have H1 : (smf_Check.l0 kj1 l0_2 (l0_2.length : Int) 0) = some (r1, r2) := by rw [if_neg (show ¬ (false = true) by decide)] at H; exact H
      clear H
      have H := H1
      clear H1
      have H' := Aside0.mk H
      clear H
      obtain ⟨hcz21_0, hcz21_1, hcz21_2, hfz21_0, hfz21_1, hfz21_2⟩ := blk3 BK101.out
      go_wp2
      go_loopg [49] kj1 (fun kq v49 w' => ∃ (x49_2 : Int), v49 = .int .i64 x49_2 ∧ Aside0 (smf_Check.l0 kq l0_2 (l0_2.length : Int) x49_2 = some (r1, r2)) ∧ Aside0 (kq ≤ kj1) ∧ Aside0 (w'.heap[gb101]? = some (.cells #[.int .i64 a0_0, .int .i64 a0_1, (.slice A0_2 l0_2.length c0_2)] 24 (0, 0))) ∧ Aside0 (Below w.heap.size w w'))
      case atStart => exact ⟨(0), qq8, H', ⟨Nat.le_refl _⟩, ⟨bq BK101.out⟩, ⟨qS1 GE101 HB.out⟩⟩
      case round =>
        clear H'
        try clear c1
        try clear c2
        try clear p2
        try clear c5
        try clear c5b0
        try clear c7
        try clear c7b0
        try clear c9
        try clear c9b0
        try clear c11
        try clear c11b0
        try clear c13
        try clear c13b0
        try clear c13b1
        try clear c15
        try clear c15b0
        try clear c15b1
        try clear c17
        try clear c17b0
        try clear c17b1
        try clear c20
        try clear hcz10_0
        try clear hcz10_1
        try clear hcz10_2
        try clear hcz12_0
        try clear hcz12_1
        try clear hcz12_2
        try clear hcz14_0
        try clear hcz14_1
        try clear hcz14_2
        try clear hcz16_0
        try clear hcz16_1
        try clear hcz16_2
        try clear hcz18_0
        try clear hcz18_1
        try clear hcz18_2
        try clear hcz19_0
        try clear hcz19_1
        try clear hcz19_2
        try clear hcz21_0
        try clear hcz21_1
        try clear hcz21_2
        try clear hcz4_0
        try clear hcz4_1
        try clear hcz4_2
        try clear hcz6_0
        try clear hcz6_1
        try clear hcz6_2
        try clear hcz8_0
        try clear hcz8_1
        try clear hcz8_2
        try clear hfz10_0
        try clear hfz10_1
        try clear hfz10_2
        try clear hfz12_0
        try clear hfz12_1
        try clear hfz12_2
        try clear hfz14_0
        try clear hfz14_1
        try clear hfz14_2
        try clear hfz16_0
        try clear hfz16_1
        try clear hfz16_2
        try clear hfz18_0
        try clear hfz18_1
        try clear hfz18_2
        try clear hfz19_0
        try clear hfz19_1
        try clear hfz19_2
        try clear hfz21_0
        try clear hfz21_1
        try clear hfz21_2
        try clear hfz4_0
        try clear hfz4_1
        try clear hfz4_2
        try clear hfz6_0
        try clear hfz6_1
        try clear hfz6_2
        try clear hfz8_0
        try clear hfz8_1
        try clear hfz8_2
        try clear p2
        obtain ⟨x49_2, rfl, HA, HK2, BK101, HB⟩ := hrel
        cases gk with
        | zero => exact absurd HA.out (by simp [smf_Check.l0])
        | succ k2 =>
          have H := HA.out
          clear HA
          simp only [smf_Check.l0] at H
          by_cases c22 : x49_2 < (l0_2.length : Int)
          rotate_left
          · rw [if_neg c22] at H
            have c22b0 : decide (x49_2 < (l0_2.length : Int)) = false := decide_eq_false c22
            clear c22
            simp only [Option.some.injEq, Prod.mk.injEq] at H
            obtain ⟨rfl, rfl⟩ := H
            go_wp2
            go_ret2
            exact ⟨qq5, qS1 GE101 HB.out⟩
          rw [if_pos c22] at H
          have c22b0 : decide (x49_2 < (l0_2.length : Int)) = true := decide_eq_true c22
          clear c22
          by_cases c23 : 0 ≤ x49_2
          rotate_left
          · rw [if_neg c23] at H
            exact absurd H (by simp)
          rw [if_pos c23] at H
          have c23b0 : decide (0 ≤ x49_2) = true := decide_eq_true c23
          clear c23
          by_cases c24 : x49_2 < (l0_2.length : Int)
          rotate_left
          · rw [if_neg c24] at H
            exact absurd H (by simp)
          rw [if_pos c24] at H
          have c24b0 : decide (x49_2 < (l0_2.length : Int)) = true := decide_eq_true c24
          clear c24
          replace H := Option.bind_eq_some_iff.mp H
          obtain ⟨t103, A250, H⟩ := H
          try dsimp -simprocs only at H
          have A25 := Aside0.mk A250
          clear A250
          by_cases c26 : t103 = true
          · subst c26
            have H1 : (some (x49_2, 151)) = some (r1, r2) := by rw [if_pos rfl] at H; exact H
            clear H
            have H := H1
            clear H1
            simp only [Option.some.injEq, Prod.mk.injEq] at H
            obtain ⟨rfl, rfl⟩ := H
            have p102 : 0 ≤ (x49_2 : Int) := of_decide_eq_true qq4
            have q102 : x49_2 < (l0_2.length : Int) := of_decide_eq_true qq4
            obtain ⟨ad102, A102_0, c102_0, e102, hx102_0, hl102_0, hi102_0⟩ := at_L3 HR0_2.out x49_2 p102 q102
            cases e102
            replace hx102_0 := (HB.out.cell (World.block_lt_of_cell? w _ hx102_0)).trans hx102_0
            have HR102_0 := Aside0.mk hi102_0
            have HC102_0 := Aside0.mk hl102_0
            clear hi102_0 hl102_0
            replace p102 := eq_true p102
            replace q102 := eq_true q102
            go_wp2_with (first | ((with_reducible refine gate_callee (f := 39) rfl ?_); refine goesL_ (some 57) rfl rfl Try.func39 (by kernel_rfl) rfl #[.slice A102_0 (rd_L3 l0_2 x49_2).length c102_0, .func (.func 38) #[] #[]] rfl qq0 ?_; (with_reducible refine (api_Midi_39.calls k2 _ _ (rd_L3 l0_2 x49_2) true _ ?side1 ?side2 A25.out).mono ?_); (case side1 => repeat (first | exact (Kd.C_below HR102_0.out HB.out) | (with_reducible refine Kd.C_alloc ?_ _) | (with_reducible refine Kd.C_drewN ?_ _) | (with_reducible refine Kd.C_drew ?_))); (case side2 => exact HC102_0.out); rintro e w27 ⟨rfl, hb⟩; refine ⟨_, rfl, ?_⟩; replace BK101 := Aside0.mk (blk_below (bq BK101.out) hb); replace HB := Aside0.mk (below_step (qS1 GE101 HB.out) hb); (try clear hb); (try clear hb2); (try clear hk); (try clear hi)))
            go_ret2
            exact ⟨qq5, qS1 GE101 HB.out⟩
          replace c26 := Bool.eq_false_iff.mpr c26
          subst c26
          have H1 : ((smf_ends.f k2 (rd_L3 l0_2 x49_2)).bind fun t104 => (if t104 = true then (smf_Check.l0 k2 l0_2 (l0_2.length : Int) (wrap64 (x49_2 + 1))) else (some (x49_2, 160)))) = some (r1, r2) := by rw [if_neg (show ¬ (false = true) by decide)] at H; exact H
          clear H
          have H := H1
          clear H1
          replace H := Option.bind_eq_some_iff.mp H
          obtain ⟨t104, A280, H⟩ := H
          try dsimp -simprocs only at H
          have A28 := Aside0.mk A280
          clear A280
          by_cases c29 : t104 = true
          · subst c29
            have H1 : (smf_Check.l0 k2 l0_2 (l0_2.length : Int) (wrap64 (x49_2 + 1))) = some (r1, r2) := by rw [if_pos rfl] at H; exact H
            clear H
            have H := H1
            clear H1
            have H' := Aside0.mk H
            clear H
            have p102 : 0 ≤ (x49_2 : Int) := of_decide_eq_true qq4
            have q102 : x49_2 < (l0_2.length : Int) := of_decide_eq_true qq4
            obtain ⟨ad102, A102_0, c102_0, e102, hx102_0, hl102_0, hi102_0⟩ := at_L3 HR0_2.out x49_2 p102 q102
            cases e102
            replace hx102_0 := (HB.out.cell (World.block_lt_of_cell? w _ hx102_0)).trans hx102_0
            have HR102_0 := Aside0.mk hi102_0
            have HC102_0 := Aside0.mk hl102_0
            clear hi102_0 hl102_0
            replace p102 := eq_true p102
            replace q102 := eq_true q102
            go_wp2_with (first | ((with_reducible refine gate_callee (f := 39) rfl ?_); refine goesL_ (some 57) rfl rfl Try.func39 (by kernel_rfl) rfl #[.slice A102_0 (rd_L3 l0_2 x49_2).length c102_0, .func (.func 38) #[] #[]] rfl qq0 ?_; (with_reducible refine (api_Midi_39.calls k2 _ _ (rd_L3 l0_2 x49_2) false _ ?side1 ?side2 A25.out).mono ?_); (case side1 => repeat (first | exact (Kd.C_below HR102_0.out HB.out) | (with_reducible refine Kd.C_alloc ?_ _) | (with_reducible refine Kd.C_drewN ?_ _) | (with_reducible refine Kd.C_drew ?_))); (case side2 => exact HC102_0.out); rintro e w30 ⟨rfl, hb⟩; refine ⟨_, rfl, ?_⟩; replace BK101 := Aside0.mk (blk_below (bq BK101.out) hb); replace HB := Aside0.mk (below_step (qS1 GE101 HB.out) hb); (try clear hb); (try clear hb2); (try clear hk); (try clear hi)) | ((with_reducible refine gate_callee (f := 40) rfl ?_); refine goesL_ (some 61) rfl rfl Try.func40 (by kernel_rfl) rfl #[.slice A102_0 (rd_L3 l0_2 x49_2).length c102_0] rfl qq0 ?_; (with_reducible refine (smf_ends.calls k2 _ _ (rd_L3 l0_2 x49_2) true _ ?side1 ?side2 A28.out).mono ?_); (case side1 => repeat (first | exact (Kd.C_below HR102_0.out HB.out) | (with_reducible refine Kd.C_alloc ?_ _) | (with_reducible refine Kd.C_drewN ?_ _) | (with_reducible refine Kd.C_drew ?_))); (case side2 => exact HC102_0.out); rintro e w31 ⟨rfl, hb⟩; refine ⟨_, rfl, ?_⟩; replace BK101 := Aside0.mk (blk_below (bq BK101.out) hb); replace HB := Aside0.mk (below_step (qS1 GE101 HB.out) hb); (try clear hb); (try clear hb2); (try clear hk); (try clear hi)))
            go_roundg k2
            case measure => have := HJ1.out; have := HK2.out; omega
            case rel => exact ⟨(wrap64 (x49_2 + 1)), qq8, H', ⟨by have := HJ1.out; have := HK2.out; omega⟩, ⟨bq BK101.out⟩, ⟨qS1 GE101 HB.out⟩⟩
          replace c29 := Bool.eq_false_iff.mpr c29
          subst c29
          have H1 : (some (x49_2, 160)) = some (r1, r2) := by rw [if_neg (show ¬ (false = true) by decide)] at H; exact H
          clear H
          have H := H1
          clear H1
          simp only [Option.some.injEq, Prod.mk.injEq] at H
          obtain ⟨rfl, rfl⟩ := H
          have p102 : 0 ≤ (x49_2 : Int) := of_decide_eq_true qq4
          have q102 : x49_2 < (l0_2.length : Int) := of_decide_eq_true qq4
          obtain ⟨ad102, A102_0, c102_0, e102, hx102_0, hl102_0, hi102_0⟩ := at_L3 HR0_2.out x49_2 p102 q102
          cases e102
          replace hx102_0 := (HB.out.cell (World.block_lt_of_cell? w _ hx102_0)).trans hx102_0
          have HR102_0 := Aside0.mk hi102_0
          have HC102_0 := Aside0.mk hl102_0
          clear hi102_0 hl102_0
          replace p102 := eq_true p102
          replace q102 := eq_true q102
          go_wp2_with (first | ((with_reducible refine gate_callee (f := 39) rfl ?_); refine goesL_ (some 57) rfl rfl Try.func39 (by kernel_rfl) rfl #[.slice A102_0 (rd_L3 l0_2 x49_2).length c102_0, .func (.func 38) #[] #[]] rfl qq0 ?_; (with_reducible refine (api_Midi_39.calls k2 _ _ (rd_L3 l0_2 x49_2) false _ ?side1 ?side2 A25.out).mono ?_); (case side1 => repeat (first | exact (Kd.C_below HR102_0.out HB.out) | (with_reducible refine Kd.C_alloc ?_ _) | (with_reducible refine Kd.C_drewN ?_ _) | (with_reducible refine Kd.C_drew ?_))); (case side2 => exact HC102_0.out); rintro e w32 ⟨rfl, hb⟩; refine ⟨_, rfl, ?_⟩; replace BK101 := Aside0.mk (blk_below (bq BK101.out) hb); replace HB := Aside0.mk (below_step (qS1 GE101 HB.out) hb); (try clear hb); (try clear hb2); (try clear hk); (try clear hi)) | ((with_reducible refine gate_callee (f := 40) rfl ?_); refine goesL_ (some 61) rfl rfl Try.func40 (by kernel_rfl) rfl #[.slice A102_0 (rd_L3 l0_2 x49_2).length c102_0] rfl qq0 ?_; (with_reducible refine (smf_ends.calls k2 _ _ (rd_L3 l0_2 x49_2) false _ ?side1 ?side2 A28.out).mono ?_); (case side1 => repeat (first | exact (Kd.C_below HR102_0.out HB.out) | (with_reducible refine Kd.C_alloc ?_ _) | (with_reducible refine Kd.C_drewN ?_ _) | (with_reducible refine Kd.C_drew ?_))); (case side2 => exact HC102_0.out); rintro e w33 ⟨rfl, hb⟩; refine ⟨_, rfl, ?_⟩; replace BK101 := Aside0.mk (blk_below (bq BK101.out) hb); replace HB := Aside0.mk (below_step (qS1 GE101 HB.out) hb); (try clear hb); (try clear hb2); (try clear hk); (try clear hi)))
          go_ret2
          exact ⟨qq5, qS1 GE101 HB.out⟩
end Go.Proofs.Ytdmnknhlibaaoaa.M
namespace Go.Proofs.Ytdmnknhlibaaoaa.M
open Go.RowKit Go.Proofs.YtdmnknhlibaaoaaW.PrintWords Go.Proofs.YtdmnknhlibaaoaaW.PrintLast Go.Proofs.YtdmnknhlibaaoaaW.PrintMore
attribute [local go_sem] max2_int min2_int max_two min_two max_three min_three max_four min_four
set_option linter.unusedVariables false
set_option linter.unusedSimpArgs false
theorem eqA28 (d : Nat) (w : World) (x0 y0 : Int) (x1 y1 : Int) (x2 y2 : Int) (x3 y3 : Int) (x4 y4 : Int) (x5 y5 : ByteArray) :
    (Op.equalIn (d + 2) 28 (.agg #[.int .i64 x0, .int .i64 x1, .int .i64 x2, .int .i64 x3, .int .i64 x4, .string x5]) (.agg #[.int .i64 y0, .int .i64 y1, .int .i64 y2, .int .i64 y3, .int .i64 y4, .string y5])).run Try.prog w = .ok (x0 == y0 && (x1 == y1 && (x2 == y2 && (x3 == y3 && (x4 == y4 && (x5.toList == y5.toList)))))) w := by
  refine eqA_of Try.underlying28 (by kernel_rfl) ?_
  refine eqf_cons (by rfl) qq1n qq1n (by go_simp) ?_
  refine eqf_cons (by rfl) qq1n qq1n (by go_simp) ?_
  refine eqf_cons (by rfl) qq1n qq1n (by go_simp) ?_
  refine eqf_cons (by rfl) qq1n qq1n (by go_simp) ?_
  refine eqf_cons (by rfl) qq1n qq1n (by go_simp) ?_
  exact eqf_last (by rfl) qq1n qq1n (by go_simp)
end Go.Proofs.Ytdmnknhlibaaoaa.M
namespace Go.Proofs.Ytdmnknhlibaaoaa.M
open Go.RowKit Go.Proofs.YtdmnknhlibaaoaaW.PrintWords Go.Proofs.YtdmnknhlibaaoaaW.PrintLast Go.Proofs.YtdmnknhlibaaoaaW.PrintMore
attribute [local go_sem] max2_int min2_int max_two min_two max_three min_three max_four min_four
set_option linter.unusedVariables false
set_option linter.unusedSimpArgs false
attribute [local go_sem high] eqA28
def api_Midi_27.l0 : Nat → List (S28) → List (S28) → Int → Int → Option (Bool)
  | 0, _, _, _, _ => none
  | k + 1, x0, x1, x12, x13 => if x13 < x12 then (if 0 ≤ x13 then (if x13 < (x0.length : Int) then (if x13 < (x1.length : Int) then (if (!(((rd_T28 x0 x13).f0) == ((rd_T28 x1 x13).f0)) || (!(((rd_T28 x0 x13).f1) == ((rd_T28 x1 x13).f1)) || (!(((rd_T28 x0 x13).f2) == ((rd_T28 x1 x13).f2)) || (!(((rd_T28 x0 x13).f3) == ((rd_T28 x1 x13).f3)) || (!(((rd_T28 x0 x13).f4) == ((rd_T28 x1 x13).f4)) || (!((((rd_T28 x0 x13).f5).toList) == (((rd_T28 x1 x13).f5).toList)))))))) = true then (some false) else (api_Midi_27.l0 k x0 x1 x12 (wrap64 (x13 + 1)))) else (none)) else (none)) else (none)) else (some true)
def api_Midi_27.f (k : Nat) (l0 : List (S28)) (l1 : List (S28)) : Option (Bool) := if (l0.length : Int) = (l1.length : Int) then (api_Midi_27.l0 k l0 l1 (l0.length : Int) 0) else (some false)
theorem api_Midi_27.mono_l : ∀ k, (∀ y0 y1 y2 y3, LeO (api_Midi_27.l0 k y0 y1 y2 y3) (api_Midi_27.l0 (k + 1) y0 y1 y2 y3))
  | 0 => fun _ _ _ _ r h => by simp [api_Midi_27.l0] at h
  | k + 1 => by
    have ih0 := api_Midi_27.mono_l k
    · intro y0 y1 y2 y3
      unfold api_Midi_27.l0
      repeat' first
      | (with_reducible exact ih0 _ _ _ _)
      | (with_reducible exact LeO.refl _)
      | (with_reducible exact LeO.none _)
      | (with_reducible refine LeO.ite ?_ ?_)
      | (with_reducible refine LeO.bind ?_ (fun _ => ?_))
      | exact ih0 _ _ _ _
      | exact LeO.none _
      | refine LeO.ite ?_ ?_
      | refine LeO.bind ?_ (fun _ => ?_)
theorem api_Midi_27.mono : ∀ a0 a1 k, LeO (api_Midi_27.f k a0 a1) (api_Midi_27.f (k + 1) a0 a1) := by
  intro a0 a1 k
  have ih0 := api_Midi_27.mono_l k
  unfold api_Midi_27.f
  repeat' first
      | (with_reducible exact ih0 _ _ _ _)
      | (with_reducible exact LeO.refl _)
      | (with_reducible exact LeO.none _)
      | (with_reducible refine LeO.ite ?_ ?_)
      | (with_reducible refine LeO.bind ?_ (fun _ => ?_))
      | exact ih0 _ _ _ _
      | exact LeO.none _
      | refine LeO.ite ?_ ?_
      | refine LeO.bind ?_ (fun _ => ?_)
set_option maxHeartbeats 8000000 in
set_option maxRecDepth 100000 in
theorem api_Midi_27.calls (k : Nat) (A0 : Option Addr) (c0 : Nat) (l0 : List (S28)) (A1 : Option Addr) (c1 : Nat) (l1 : List (S28)) (r : Bool) (w : World) (hr0 : Kd.C k28 w A0 l0.length l0) (hc0 : l0.length ≤ c0) (hr1 : Kd.C k28 w A1 l1.length l1) (hc1 : l1.length ≤ c1) (h : api_Midi_27.f k l0 l1 = some r) :
    Calls Try.prog 27 #[.slice A0 l0.length c0, .slice A1 l1.length c1] w fun e w' => e = .returned (.bool r) ∧ Drawn0 w w' := by
  have hu28 := Try.underlying28
  have HR0 := Aside0.mk hr0
  have HC0 := Aside0.mk hc0
  clear hr0 hc0
  have HR1 := Aside0.mk hr1
  have HC1 := Aside0.mk hc1
  clear hr1 hc1
  have H := h
  unfold api_Midi_27.f at H
  clear h
  by_cases c3 : (l0.length : Int) = (l1.length : Int)
  rotate_left
  · rw [if_neg c3] at H
    have c3b0 : ((l0.length : Int) == (l1.length : Int)) = false := beq_eq_false_iff_ne.mpr c3
    have c3b1 : ((l0.length : Int) != (l1.length : Int)) = true := bne_iff_ne.mpr c3
    have c3b2 : (l0.length == l1.length) = false := by first | simpa using c3 | (simp at c3 ⊢; omega)
    obtain rfl := Option.some.inj H
    go_enter Try.func27, Try.ntmps27
    go_wp2
    repeat (go_quiet (fail); try go_wp2)
    go_ret
    exact ⟨qq8, qqf⟩
  rw [if_pos c3] at H
  have c3b0 : ((l0.length : Int) == (l1.length : Int)) = true := beq_iff_eq.mpr c3
  have c3b1 : ((l0.length : Int) != (l1.length : Int)) = false := bne_eq_false_iff_eq.mpr c3
  have c3b2 : (l0.length == l1.length) = true := by first | simpa using c3 | (simp at c3 ⊢; omega)
  clear c3
  have H' := Aside0.mk H
  clear H
  go_enter Try.func27, Try.ntmps27
  go_wp2
  repeat (go_quiet (fail); try go_wp2)
  go_loopg [13] k (fun kq v13 w' => ∃ (x13_1 : Int), v13 = .int .i64 x13_1 ∧ Aside0 (api_Midi_27.l0 kq l0 l1 (l0.length : Int) x13_1 = some r) ∧ Aside0 (kq ≤ k) ∧ Drawn0 w w')
  case atStart => exact ⟨(0), qq8, H', ⟨Nat.le_refl _⟩, qqf⟩
  case round =>
    clear H'
    try clear c1
    try clear c2
    try clear p2
    try clear c3
    try clear c3b0
    try clear c3b1
    try clear c3b2
    obtain ⟨x13_1, rfl, HA, HK1, ⟨m1, rfl⟩⟩ := hrel
    cases gk with
    | zero => exact absurd HA.out (by simp [api_Midi_27.l0])
    | succ k1 =>
      have H := HA.out
      clear HA
      simp only [api_Midi_27.l0] at H
      by_cases c4 : x13_1 < (l0.length : Int)
      rotate_left
      · rw [if_neg c4] at H
        have c4b0 : decide (x13_1 < (l0.length : Int)) = false := decide_eq_false c4
        clear c4
        obtain rfl := Option.some.inj H
        go_wp2
        repeat (go_quiet (fail); try go_wp2)
        go_ret
        exact ⟨qq8, qqf⟩
      rw [if_pos c4] at H
      have c4b0 : decide (x13_1 < (l0.length : Int)) = true := decide_eq_true c4
      clear c4
      by_cases c5 : 0 ≤ x13_1
      rotate_left
      · rw [if_neg c5] at H
        exact absurd H (by simp)
      rw [if_pos c5] at H
      have c5b0 : decide (0 ≤ x13_1) = true := decide_eq_true c5
      clear c5
      by_cases c6 : x13_1 < (l0.length : Int)
      rotate_left
      · rw [if_neg c6] at H
        exact absurd H (by simp)
      rw [if_pos c6] at H
      have c6b0 : decide (x13_1 < (l0.length : Int)) = true := decide_eq_true c6
      clear c6
      by_cases c7 : x13_1 < (l1.length : Int)
      rotate_left
      · rw [if_neg c7] at H
        exact absurd H (by simp)
      rw [if_pos c7] at H
      have c7b0 : decide (x13_1 < (l1.length : Int)) = true := decide_eq_true c7
      clear c7
      by_cases c8 : (!(((rd_T28 l0 x13_1).f0) == ((rd_T28 l1 x13_1).f0)) || (!(((rd_T28 l0 x13_1).f1) == ((rd_T28 l1 x13_1).f1)) || (!(((rd_T28 l0 x13_1).f2) == ((rd_T28 l1 x13_1).f2)) || (!(((rd_T28 l0 x13_1).f3) == ((rd_T28 l1 x13_1).f3)) || (!(((rd_T28 l0 x13_1).f4) == ((rd_T28 l1 x13_1).f4)) || (!((((rd_T28 l0 x13_1).f5).toList) == (((rd_T28 l1 x13_1).f5).toList)))))))) = true
      · rw [if_pos c8] at H
        have c8b0 : (!(((rd_T28 l0 x13_1).f0) == ((rd_T28 l1 x13_1).f0)) || (!(((rd_T28 l0 x13_1).f1) == ((rd_T28 l1 x13_1).f1)) || (!(((rd_T28 l0 x13_1).f2) == ((rd_T28 l1 x13_1).f2)) || (!(((rd_T28 l0 x13_1).f3) == ((rd_T28 l1 x13_1).f3)) || (!(((rd_T28 l0 x13_1).f4) == ((rd_T28 l1 x13_1).f4)) || (!((((rd_T28 l0 x13_1).f5).toList) == (((rd_T28 l1 x13_1).f5).toList)))))))) = true := c8
        clear c8
        obtain rfl := Option.some.inj H
        have p101 : 0 ≤ (x13_1 : Int) := of_decide_eq_true qq4
        have q101 : x13_1 < (l0.length : Int) := of_decide_eq_true qq4
        obtain ⟨ad101, e101, hx101_0, hx101_1, hx101_2, hx101_3, hx101_4, hx101_5⟩ := at_T28 HR0.out x13_1 p101 q101
        cases e101
        replace p101 := eq_true p101
        replace q101 := eq_true q101
        have p102 : 0 ≤ (x13_1 : Int) := of_decide_eq_true qq4
        have q102 : x13_1 < (l1.length : Int) := of_decide_eq_true qq4
        obtain ⟨ad102, e102, hx102_0, hx102_1, hx102_2, hx102_3, hx102_4, hx102_5⟩ := at_T28 HR1.out x13_1 p102 q102
        cases e102
        replace p102 := eq_true p102
        replace q102 := eq_true q102
        go_wp2
        repeat (go_quiet (fail); try go_wp2)
        go_ret
        exact ⟨qq8, qqf⟩
      rw [if_neg c8] at H
      have c8b0 : (!(((rd_T28 l0 x13_1).f0) == ((rd_T28 l1 x13_1).f0)) || (!(((rd_T28 l0 x13_1).f1) == ((rd_T28 l1 x13_1).f1)) || (!(((rd_T28 l0 x13_1).f2) == ((rd_T28 l1 x13_1).f2)) || (!(((rd_T28 l0 x13_1).f3) == ((rd_T28 l1 x13_1).f3)) || (!(((rd_T28 l0 x13_1).f4) == ((rd_T28 l1 x13_1).f4)) || (!((((rd_T28 l0 x13_1).f5).toList) == (((rd_T28 l1 x13_1).f5).toList)))))))) = false := by simpa using c8
      clear c8
      have H' := Aside0.mk H
      clear H
      have p101 : 0 ≤ (x13_1 : Int) := of_decide_eq_true qq4
      have q101 : x13_1 < (l0.length : Int) := of_decide_eq_true qq4
      obtain ⟨ad101, e101, hx101_0, hx101_1, hx101_2, hx101_3, hx101_4, hx101_5⟩ := at_T28 HR0.out x13_1 p101 q101
      cases e101
      replace p101 := eq_true p101
      replace q101 := eq_true q101
      have p102 : 0 ≤ (x13_1 : Int) := of_decide_eq_true qq4
      have q102 : x13_1 < (l1.length : Int) := of_decide_eq_true qq4
      obtain ⟨ad102, e102, hx102_0, hx102_1, hx102_2, hx102_3, hx102_4, hx102_5⟩ := at_T28 HR1.out x13_1 p102 q102
      cases e102
      replace p102 := eq_true p102
      replace q102 := eq_true q102
      go_wp2
      repeat (go_quiet (fail); try go_wp2)
      go_roundg k1
      case measure => have := HK1.out; omega
      case rel => exact ⟨(wrap64 (x13_1 + 1)), qq8, H', ⟨qq18⟩, qqf⟩
end Go.Proofs.Ytdmnknhlibaaoaa.M
namespace Go.Proofs.Ytdmnknhlibaaoaa.M
open Go.RowKit Go.Proofs.YtdmnknhlibaaoaaW.PrintWords Go.Proofs.YtdmnknhlibaaoaaW.PrintLast Go.Proofs.YtdmnknhlibaaoaaW.PrintMore
attribute [local go_sem] max2_int min2_int max_two min_two max_three min_three max_four min_four
set_option linter.unusedVariables false
set_option linter.unusedSimpArgs false
def api_Midi_26.l0 : Nat → List (List (S28)) → List (List (S28)) → Int → Int → Option (Bool)
  | 0, _, _, _, _ => none
  | k + 1, x1, x15, x16, x17 => if x17 < x16 then (if 0 ≤ x17 then (if x17 < (x15.length : Int) then (if x17 < (x1.length : Int) then ((api_Midi_27.f k (rd_L3 x15 x17) (rd_L3 x1 x17)).bind fun t103 => (if t103 = true then (api_Midi_26.l0 k x1 x15 x16 (wrap64 (x17 + 1))) else (some false))) else (none)) else (none)) else (none)) else (some true)
def api_Midi_26.f (k : Nat) (l0 : List (List (S28))) (l1 : List (List (S28))) : Option (Bool) := if (l0.length : Int) = (l1.length : Int) then (api_Midi_26.l0 k l1 l0 (l0.length : Int) 0) else (some false)
theorem api_Midi_26.mono_l : ∀ k, (∀ y0 y1 y2 y3, LeO (api_Midi_26.l0 k y0 y1 y2 y3) (api_Midi_26.l0 (k + 1) y0 y1 y2 y3))
  | 0 => fun _ _ _ _ r h => by simp [api_Midi_26.l0] at h
  | k + 1 => by
    have ih0 := api_Midi_26.mono_l k
    · intro y0 y1 y2 y3
      unfold api_Midi_26.l0
      repeat' first
      | (with_reducible exact ih0 _ _ _ _)
      | (with_reducible exact api_Midi_27.mono _ _ _)
      | (with_reducible exact LeO.refl _)
      | (with_reducible exact LeO.none _)
      | (with_reducible refine LeO.ite ?_ ?_)
      | (with_reducible refine LeO.bind ?_ (fun _ => ?_))
      | exact ih0 _ _ _ _
      | exact api_Midi_27.mono _ _ _
      | exact LeO.none _
      | refine LeO.ite ?_ ?_
      | refine LeO.bind ?_ (fun _ => ?_)
theorem api_Midi_26.mono : ∀ a0 a1 k, LeO (api_Midi_26.f k a0 a1) (api_Midi_26.f (k + 1) a0 a1) := by
  intro a0 a1 k
  have ih0 := api_Midi_26.mono_l k
  unfold api_Midi_26.f
  repeat' first
      | (with_reducible exact ih0 _ _ _ _)
      | (with_reducible exact api_Midi_27.mono _ _ _)
      | (with_reducible exact LeO.refl _)
      | (with_reducible exact LeO.none _)
      | (with_reducible refine LeO.ite ?_ ?_)
      | (with_reducible refine LeO.bind ?_ (fun _ => ?_))
      | exact ih0 _ _ _ _
      | exact api_Midi_27.mono _ _ _
      | exact LeO.none _
      | refine LeO.ite ?_ ?_
      | refine LeO.bind ?_ (fun _ => ?_)
set_option maxHeartbeats 8000000 in
set_option maxRecDepth 100000 in
theorem api_Midi_26.calls (k : Nat) (A0 : Option Addr) (c0 : Nat) (l0 : List (List (S28))) (A1 : Option Addr) (c1 : Nat) (l1 : List (List (S28))) (r : Bool) (w : World) (hr0 : Kd.C (Kd.slice 28 k28) w A0 l0.length l0) (hc0 : l0.length ≤ c0) (hr1 : Kd.C (Kd.slice 28 k28) w A1 l1.length l1) (hc1 : l1.length ≤ c1) (h : api_Midi_26.f k l0 l1 = some r) :
    Calls Try.prog 26 #[.slice A0 l0.length c0, .slice A1 l1.length c1, .func (.func 27) #[] #[]] w fun e w' => e = .returned (.bool r) ∧ Drawn0 w w' := by
  have HR0 := Aside0.mk hr0
  have HC0 := Aside0.mk hc0
  clear hr0 hc0
  have HR1 := Aside0.mk hr1
  have HC1 := Aside0.mk hc1
  clear hr1 hc1
  have H := h
  unfold api_Midi_26.f at H
  clear h
  by_cases c3 : (l0.length : Int) = (l1.length : Int)
  rotate_left
  · rw [if_neg c3] at H
    have c3b0 : ((l0.length : Int) == (l1.length : Int)) = false := beq_eq_false_iff_ne.mpr c3
    have c3b1 : ((l0.length : Int) != (l1.length : Int)) = true := bne_iff_ne.mpr c3
    have c3b2 : (l0.length == l1.length) = false := by first | simpa using c3 | (simp at c3 ⊢; omega)
    obtain rfl := Option.some.inj H
    go_enter Try.func26, Try.ntmps26
    go_wp2
    go_ret
    exact ⟨qq8, qqf⟩
  rw [if_pos c3] at H
  have c3b0 : ((l0.length : Int) == (l1.length : Int)) = true := beq_iff_eq.mpr c3
  have c3b1 : ((l0.length : Int) != (l1.length : Int)) = false := bne_eq_false_iff_eq.mpr c3
  have c3b2 : (l0.length == l1.length) = true := by first | simpa using c3 | (simp at c3 ⊢; omega)
  clear c3
  have H' := Aside0.mk H
  clear H
  go_enter Try.func26, Try.ntmps26
  go_wp2
  go_loopg [17] k (fun kq v17 w' => ∃ (x17_1 : Int), v17 = .int .i64 x17_1 ∧ Aside0 (api_Midi_26.l0 kq l1 l0 (l0.length : Int) x17_1 = some r) ∧ Aside0 (kq ≤ k) ∧ Drawn0 w w')
  case atStart => exact ⟨(0), qq8, H', ⟨Nat.le_refl _⟩, qqf⟩
  case round =>
    clear H'
    try clear c1
    try clear c2
    try clear p2
    try clear c3
    try clear c3b0
    try clear c3b1
    try clear c3b2
    obtain ⟨x17_1, rfl, HA, HK1, ⟨m1, rfl⟩⟩ := hrel
    cases gk with
    | zero => exact absurd HA.out (by simp [api_Midi_26.l0])
    | succ k1 =>
      have H := HA.out
      clear HA
      simp only [api_Midi_26.l0] at H
      by_cases c4 : x17_1 < (l0.length : Int)
      rotate_left
      · rw [if_neg c4] at H
        have c4b0 : decide (x17_1 < (l0.length : Int)) = false := decide_eq_false c4
        clear c4
        obtain rfl := Option.some.inj H
        go_wp2
        go_ret
        exact ⟨qq8, qqf⟩
      rw [if_pos c4] at H
      have c4b0 : decide (x17_1 < (l0.length : Int)) = true := decide_eq_true c4
      clear c4
      by_cases c5 : 0 ≤ x17_1
      rotate_left
      · rw [if_neg c5] at H
        exact absurd H (by simp)
      rw [if_pos c5] at H
      have c5b0 : decide (0 ≤ x17_1) = true := decide_eq_true c5
      clear c5
      by_cases c6 : x17_1 < (l0.length : Int)
      rotate_left
      · rw [if_neg c6] at H
        exact absurd H (by simp)
      rw [if_pos c6] at H
      have c6b0 : decide (x17_1 < (l0.length : Int)) = true := decide_eq_true c6
      clear c6
      by_cases c7 : x17_1 < (l1.length : Int)
      rotate_left
      · rw [if_neg c7] at H
        exact absurd H (by simp)
      rw [if_pos c7] at H
      have c7b0 : decide (x17_1 < (l1.length : Int)) = true := decide_eq_true c7
      clear c7
      replace H := Option.bind_eq_some_iff.mp H
      obtain ⟨t103, A80, H⟩ := H
      try dsimp -simprocs only at H
      have A8 := Aside0.mk A80
      clear A80
      by_cases c9 : t103 = true
      rotate_left
      · replace c9 := Bool.eq_false_iff.mpr c9
        subst c9
        have H1 : (some false) = some r := by rw [if_neg (show ¬ (false = true) by decide)] at H; exact H
        clear H
        have H := H1
        clear H1
        obtain rfl := Option.some.inj H
        have p101 : 0 ≤ (x17_1 : Int) := of_decide_eq_true qq4
        have q101 : x17_1 < (l0.length : Int) := of_decide_eq_true qq4
        obtain ⟨ad101, A101_0, c101_0, e101, hx101_0, hl101_0, hi101_0⟩ := at_L3 HR0.out x17_1 p101 q101
        cases e101
        have HR101_0 := Aside0.mk hi101_0
        have HC101_0 := Aside0.mk hl101_0
        clear hi101_0 hl101_0
        replace p101 := eq_true p101
        replace q101 := eq_true q101
        have p102 : 0 ≤ (x17_1 : Int) := of_decide_eq_true qq4
        have q102 : x17_1 < (l1.length : Int) := of_decide_eq_true qq4
        obtain ⟨ad102, A102_0, c102_0, e102, hx102_0, hl102_0, hi102_0⟩ := at_L3 HR1.out x17_1 p102 q102
        cases e102
        have HR102_0 := Aside0.mk hi102_0
        have HC102_0 := Aside0.mk hl102_0
        clear hi102_0 hl102_0
        replace p102 := eq_true p102
        replace q102 := eq_true q102
        go_wp2_with (first | (refine goesV_ (some 29) rfl rfl Try.func27 (by kernel_rfl) rfl #[.slice A101_0 (rd_L3 l0 x17_1).length c101_0, .slice A102_0 (rd_L3 l1 x17_1).length c102_0] rfl qq0 ?_; (with_reducible refine (api_Midi_27.calls k1 _ _ (rd_L3 l0 x17_1) _ _ (rd_L3 l1 x17_1) false _ ?side1 ?side2 ?side3 ?side4 A8.out).mono ?_); (case side1 => repeat (first | exact HR101_0.out | (with_reducible refine Kd.C_alloc ?_ _) | (with_reducible refine Kd.C_drewN ?_ _) | (with_reducible refine Kd.C_drew ?_))); (case side2 => exact HC101_0.out); (case side3 => repeat (first | exact HR102_0.out | (with_reducible refine Kd.C_alloc ?_ _) | (with_reducible refine Kd.C_drewN ?_ _) | (with_reducible refine Kd.C_drew ?_))); (case side4 => exact HC102_0.out); rintro e w' ⟨rfl, ⟨nd, rfl⟩⟩; refine ⟨_, rfl, ?_⟩))
        go_ret
        exact ⟨qq8, qqf⟩
      subst c9
      have H1 : (api_Midi_26.l0 k1 l1 l0 (l0.length : Int) (wrap64 (x17_1 + 1))) = some r := by rw [if_pos rfl] at H; exact H
      clear H
      have H := H1
      clear H1
      have H' := Aside0.mk H
      clear H
      have p101 : 0 ≤ (x17_1 : Int) := of_decide_eq_true qq4
      have q101 : x17_1 < (l0.length : Int) := of_decide_eq_true qq4
      obtain ⟨ad101, A101_0, c101_0, e101, hx101_0, hl101_0, hi101_0⟩ := at_L3 HR0.out x17_1 p101 q101
      cases e101
      have HR101_0 := Aside0.mk hi101_0
      have HC101_0 := Aside0.mk hl101_0
      clear hi101_0 hl101_0
      replace p101 := eq_true p101
      replace q101 := eq_true q101
      have p102 : 0 ≤ (x17_1 : Int) := of_decide_eq_true qq4
      have q102 : x17_1 < (l1.length : Int) := of_decide_eq_true qq4
      obtain ⟨ad102, A102_0, c102_0, e102, hx102_0, hl102_0, hi102_0⟩ := at_L3 HR1.out x17_1 p102 q102
      cases e102
      have HR102_0 := Aside0.mk hi102_0
      have HC102_0 := Aside0.mk hl102_0
      clear hi102_0 hl102_0
      replace p102 := eq_true p102
      replace q102 := eq_true q102
      go_wp2_with (first | (refine goesV_ (some 29) rfl rfl Try.func27 (by kernel_rfl) rfl #[.slice A101_0 (rd_L3 l0 x17_1).length c101_0, .slice A102_0 (rd_L3 l1 x17_1).length c102_0] rfl qq0 ?_; (with_reducible refine (api_Midi_27.calls k1 _ _ (rd_L3 l0 x17_1) _ _ (rd_L3 l1 x17_1) true _ ?side1 ?side2 ?side3 ?side4 A8.out).mono ?_); (case side1 => repeat (first | exact HR101_0.out | (with_reducible refine Kd.C_alloc ?_ _) | (with_reducible refine Kd.C_drewN ?_ _) | (with_reducible refine Kd.C_drew ?_))); (case side2 => exact HC101_0.out); (case side3 => repeat (first | exact HR102_0.out | (with_reducible refine Kd.C_alloc ?_ _) | (with_reducible refine Kd.C_drewN ?_ _) | (with_reducible refine Kd.C_drew ?_))); (case side4 => exact HC102_0.out); rintro e w' ⟨rfl, ⟨nd, rfl⟩⟩; refine ⟨_, rfl, ?_⟩))
      go_roundg k1
      case measure => have := HK1.out; omega
      case rel => exact ⟨(wrap64 (x17_1 + 1)), qq8, H', ⟨qq18⟩, qqf⟩
def smf_Same.f (k : Nat) (a0_0 : Int) (a0_1 : Int) (l0_2 : List (List (S28))) (a1_0 : Int) (a1_1 : Int) (l1_2 : List (List (S28))) : Option (Bool) := if a0_0 = a1_0 then (if a0_1 = a1_1 then ((api_Midi_26.f k l0_2 l1_2).bind fun t103 => (some t103)) else (some false)) else (some false)
theorem smf_Same.mono : ∀ a0 a1 a2 a3 a4 a5 k, LeO (smf_Same.f k a0 a1 a2 a3 a4 a5) (smf_Same.f (k + 1) a0 a1 a2 a3 a4 a5) := by
  intro a0 a1 a2 a3 a4 a5 k
  unfold smf_Same.f
  repeat' first
      | (with_reducible exact api_Midi_26.mono _ _ _)
      | (with_reducible exact LeO.refl _)
      | (with_reducible exact LeO.none _)
      | (with_reducible refine LeO.ite ?_ ?_)
      | (with_reducible refine LeO.bind ?_ (fun _ => ?_))
      | exact api_Midi_26.mono _ _ _
      | exact LeO.none _
      | refine LeO.ite ?_ ?_
      | refine LeO.bind ?_ (fun _ => ?_)
set_option maxHeartbeats 8000000 in
set_option maxRecDepth 100000 in
theorem smf_Same.calls (k : Nat) (a0_0 : Int) (a0_1 : Int) (A0_2 : Option Addr) (c0_2 : Nat) (l0_2 : List (List (S28))) (a1_0 : Int) (a1_1 : Int) (A1_2 : Option Addr) (c1_2 : Nat) (l1_2 : List (List (S28))) (r : Bool) (w : World) (hr0_2 : Kd.C (Kd.slice 28 k28) w A0_2 l0_2.length l0_2) (hc0_2 : l0_2.length ≤ c0_2) (hr1_2 : Kd.C (Kd.slice 28 k28) w A1_2 l1_2.length l1_2) (hc1_2 : l1_2.length ≤ c1_2) (h : smf_Same.f k a0_0 a0_1 l0_2 a1_0 a1_1 l1_2 = some r) :
    Calls Try.prog 14 #[.agg #[.int .i64 a0_0, .int .i64 a0_1, .slice A0_2 l0_2.length c0_2], .agg #[.int .i64 a1_0, .int .i64 a1_1, .slice A1_2 l1_2.length c1_2]] w fun e w' => e = .returned (.bool r) ∧ Below w.heap.size w w' := by
  have hu24 := Try.underlying24
  have HR0_2 := Aside0.mk hr0_2
  have HC0_2 := Aside0.mk hc0_2
  clear hr0_2 hc0_2
  have HR1_2 := Aside0.mk hr1_2
  have HC1_2 := Aside0.mk hc1_2
  clear hr1_2 hc1_2
  have HB := Aside0.mk (Below.refl w.heap.size w)
  have H := h
  unfold smf_Same.f at H
  clear h
  by_cases c3 : a0_0 = a1_0
  rotate_left
  · rw [if_neg c3] at H
    have c3b0 : (a0_0 == a1_0) = false := beq_eq_false_iff_ne.mpr c3
    have c3b1 : (a0_0 != a1_0) = true := bne_iff_ne.mpr c3
    obtain rfl := Option.some.inj H
    go_enter Try.func14, Try.ntmps14
    go_wp2_with (first | ((with_reducible refine gate_dst (N := 2) rfl ?_); refine box_event ?hg (N := 2) ?hd (cs := #[.int .i64 a0_0, .int .i64 a0_1, .slice A0_2 l0_2.length c0_2]) (t := 24) ?hr ?_; (case hd => rfl); (case hg => rfl); (case hr => exact qq6); intro gb101 hg w16 hbox hb; have BK101 := Aside0.mk (hbox); have GW101 := Aside0.mk ((qq9 : w.heap.size ≤ gb101)); have GE101 := Aside0.mk ((qq9 : w.heap.size ≤ gb101)); replace HB := Aside0.mk (below_step (qB HB.out) hb); clear hb hbox hg) | ((with_reducible refine gate_dst (N := 3) rfl ?_); refine box_event ?hg (N := 3) ?hd (cs := #[.int .i64 a1_0, .int .i64 a1_1, .slice A1_2 l1_2.length c1_2]) (t := 24) ?hr ?_; (case hd => rfl); (case hg => rfl); (case hr => exact qq6); intro gb102 hg w17 hbox hb; have BK102 := Aside0.mk (hbox); have GW102 := Aside0.mk ((qqh : w.heap.size ≤ gb102)); have GE102 := Aside0.mk ((qqh : w.heap.size ≤ gb102)); replace HB := Aside0.mk (below_step (qS1 GE101 HB.out) hb); have NB101_102 := Aside0.mk ((qqb : gb101 ≠ gb102)); have NB102_101 := Aside0.mk ((qqc : gb102 ≠ gb101)); replace BK101 := Aside0.mk (blk_below (bq BK101.out) hb); clear hb hbox hg; have hnb18 := NB101_102.out; have hnc18 := NB102_101.out; obtain ⟨hcz19_0, hcz19_1, hcz19_2, hfz19_0, hfz19_1, hfz19_2⟩ := blk3 BK101.out; obtain ⟨hcz20_0, hcz20_1, hcz20_2, hfz20_0, hfz20_1, hfz20_2⟩ := blk3 BK102.out))
    go_ret
    exact ⟨qq5, qS2 GE101 GE102 HB.out⟩
  rw [if_pos c3] at H
  have c3b0 : (a0_0 == a1_0) = true := beq_iff_eq.mpr c3
  have c3b1 : (a0_0 != a1_0) = false := bne_eq_false_iff_eq.mpr c3
  clear c3
  by_cases c4 : a0_1 = a1_1
  rotate_left
  · rw [if_neg c4] at H
    have c4b0 : (a0_1 == a1_1) = false := beq_eq_false_iff_ne.mpr c4
    have c4b1 : (a0_1 != a1_1) = true := bne_iff_ne.mpr c4
    obtain rfl := Option.some.inj H
    go_enter Try.func14, Try.ntmps14
    go_wp2_with (first | ((with_reducible refine gate_dst (N := 2) rfl ?_); refine box_event ?hg (N := 2) ?hd (cs := #[.int .i64 a0_0, .int .i64 a0_1, .slice A0_2 l0_2.length c0_2]) (t := 24) ?hr ?_; (case hd => rfl); (case hg => rfl); (case hr => exact qq6); intro gb101 hg w11 hbox hb; have BK101 := Aside0.mk (hbox); have GW101 := Aside0.mk ((qq9 : w.heap.size ≤ gb101)); have GE101 := Aside0.mk ((qq9 : w.heap.size ≤ gb101)); replace HB := Aside0.mk (below_step (qB HB.out) hb); clear hb hbox hg) | ((with_reducible refine gate_dst (N := 3) rfl ?_); refine box_event ?hg (N := 3) ?hd (cs := #[.int .i64 a1_0, .int .i64 a1_1, .slice A1_2 l1_2.length c1_2]) (t := 24) ?hr ?_; (case hd => rfl); (case hg => rfl); (case hr => exact qq6); intro gb102 hg w12 hbox hb; have BK102 := Aside0.mk (hbox); have GW102 := Aside0.mk ((qqh : w.heap.size ≤ gb102)); have GE102 := Aside0.mk ((qqh : w.heap.size ≤ gb102)); replace HB := Aside0.mk (below_step (qS1 GE101 HB.out) hb); have NB101_102 := Aside0.mk ((qqb : gb101 ≠ gb102)); have NB102_101 := Aside0.mk ((qqc : gb102 ≠ gb101)); replace BK101 := Aside0.mk (blk_below (bq BK101.out) hb); clear hb hbox hg; have hnb13 := NB101_102.out; have hnc13 := NB102_101.out; obtain ⟨hcz14_0, hcz14_1, hcz14_2, hfz14_0, hfz14_1, hfz14_2⟩ := blk3 BK101.out; obtain ⟨hcz15_0, hcz15_1, hcz15_2, hfz15_0, hfz15_1, hfz15_2⟩ := blk3 BK102.out))
    go_ret
    exact ⟨qq5, qS2 GE101 GE102 HB.out⟩
  rw [if_pos c4] at H
  have c4b0 : (a0_1 == a1_1) = true := beq_iff_eq.mpr c4
  have c4b1 : (a0_1 != a1_1) = false := bne_eq_false_iff_eq.mpr c4
  clear c4
  replace H := Option.bind_eq_some_iff.mp H
  obtain ⟨t103, A50, H⟩ := H
  try dsimp -simprocs only at H
  have A5 := Aside0.mk A50
  clear A50
  obtain rfl := Option.some.inj H
  go_enter Try.func14, Try.ntmps14
  go_wp2_with (first | ((with_reducible refine gate_dst (N := 2) rfl ?_); refine box_event ?hg (N := 2) ?hd (cs := #[.int .i64 a0_0, .int .i64 a0_1, .slice A0_2 l0_2.length c0_2]) (t := 24) ?hr ?_; (case hd => rfl); (case hg => rfl); (case hr => exact qq6); intro gb101 hg w6 hbox hb; have BK101 := Aside0.mk (hbox); have GW101 := Aside0.mk ((qq9 : w.heap.size ≤ gb101)); have GE101 := Aside0.mk ((qq9 : w.heap.size ≤ gb101)); replace HB := Aside0.mk (below_step (qB HB.out) hb); clear hb hbox hg) | ((with_reducible refine gate_dst (N := 3) rfl ?_); refine box_event ?hg (N := 3) ?hd (cs := #[.int .i64 a1_0, .int .i64 a1_1, .slice A1_2 l1_2.length c1_2]) (t := 24) ?hr ?_; (case hd => rfl); (case hg => rfl); (case hr => exact qq6); intro gb102 hg w7 hbox hb; have BK102 := Aside0.mk (hbox); have GW102 := Aside0.mk ((qqh : w.heap.size ≤ gb102)); have GE102 := Aside0.mk ((qqh : w.heap.size ≤ gb102)); replace HB := Aside0.mk (below_step (qS1 GE101 HB.out) hb); have NB101_102 := Aside0.mk ((qqb : gb101 ≠ gb102)); have NB102_101 := Aside0.mk ((qqc : gb102 ≠ gb101)); replace BK101 := Aside0.mk (blk_below (bq BK101.out) hb); clear hb hbox hg; have hnb8 := NB101_102.out; have hnc8 := NB102_101.out; obtain ⟨hcz9_0, hcz9_1, hcz9_2, hfz9_0, hfz9_1, hfz9_2⟩ := blk3 BK101.out; obtain ⟨hcz10_0, hcz10_1, hcz10_2, hfz10_0, hfz10_1, hfz10_2⟩ := blk3 BK102.out) | (go_at_call 26; (with_reducible refine (api_Midi_26.calls k _ _ l0_2 _ _ l1_2 t103 _ ?side1 ?side2 ?side3 ?side4 A5.out).mono ?_); (case side1 => repeat (first | exact (Kd.C_below HR0_2.out HB.out) | (with_reducible refine Kd.C_alloc ?_ _) | (with_reducible refine Kd.C_drewN ?_ _) | (with_reducible refine Kd.C_drew ?_))); (case side2 => exact HC0_2.out); (case side3 => repeat (first | exact (Kd.C_below HR1_2.out HB.out) | (with_reducible refine Kd.C_alloc ?_ _) | (with_reducible refine Kd.C_drewN ?_ _) | (with_reducible refine Kd.C_drew ?_))); (case side4 => exact HC1_2.out); rintro e w' ⟨rfl, ⟨nd, rfl⟩⟩))
  go_ret
  exact ⟨qq5, qS2 GE101 GE102 HB.out⟩
end Go.Proofs.Ytdmnknhlibaaoaa.M
namespace Go.Proofs.Ytdmnknhlibaaoaa.Z
open Go.RowKit Go.Proofs.YtdmnknhlibaaoaaW.PrintWords Go.Proofs.YtdmnknhlibaaoaaW.PrintLast Go.Proofs.Ytdmnknhlibaaoaa.M
set_option linter.unusedVariables false
theorem Ev.yes {α : Type} {c : Prop} [Decidable c] {a b : Nat → Option α} {r : α} (h : c) (k : Ev a r) : Ev (fun n => if c then a n else b n) r := by
  obtain ⟨K, hK⟩ := k
  exact ⟨K, fun n hn => by show (if c then a n else b n) = some r; rw [if_pos h]; exact hK n hn⟩
theorem Ev.no {α : Type} {c : Prop} [Decidable c] {a b : Nat → Option α} {r : α} (h : ¬ c) (k : Ev b r) : Ev (fun n => if c then a n else b n) r := by
  obtain ⟨K, hK⟩ := k
  exact ⟨K, fun n hn => by show (if c then a n else b n) = some r; rw [if_neg h]; exact hK n hn⟩
theorem Ev.eq {α : Type} {x : Option α} {r : α} (h : x = some r) : Ev (fun _ => x) r := ⟨0, fun _ _ => h⟩
theorem Ev.at {α : Type} {g : Nat → Option α} {r : α} (K : Nat) (h : ∀ k, K ≤ k → g k = some r) : Ev g r := ⟨K, h⟩
theorem Ev.ok {α : Type} {g : Nat → Option α} {r r' : α} (h : Ev g r) (e : r = r') : Ev g r' := e ▸ h
def isEnd (m : Msg) : Bool := decide (m.f1 = 16) && (decide (m.f3 = 47) && decide (m.f5.size = 0))
theorem last_f (m : Msg) : smf_last.f m.f0 m.f1 m.f2 m.f3 m.f4 m.f5 = some (isEnd m) := by
  unfold smf_last.f isEnd
  by_cases h1 : m.f1 = 16
  · rw [if_pos h1, decide_eq_true h1, Bool.true_and]
    by_cases h2 : m.f3 = 47
    · rw [if_pos h2, decide_eq_true h2, Bool.true_and]
      congr 1
      rw [Bool.eq_iff_iff]
      simp only [beq_iff_eq, decide_eq_true_eq]
      exact toList_nil m.f5
    · rw [if_neg h2, decide_eq_false h2, Bool.false_and]
  · rw [if_neg h1, decide_eq_false h1, Bool.false_and]
def fIdx (p : Msg → Bool) : List Msg → Nat → Int
  | [], _ => -1
  | m :: r, i => if p m = true then (i : Int) else fIdx p r (i + 1)
theorem idx60_l0 (l : List Msg) (hl : l.length ≤ 1000000000) : ∀ (j i k : Nat), i + j = l.length → j < k → api_Midi_60.l0 k l (l.length : Int) (i : Int) = some (fIdx isEnd (l.drop i) i)
  | 0, i, k, hj, hk => by
    obtain ⟨k, rfl⟩ : ∃ m, k = m + 1 := ⟨k - 1, by omega⟩
    simp only [api_Midi_60.l0]
    rw [if_neg (by omega), List.drop_eq_nil_of_le (by omega)]
    rfl
  | j + 1, i, k, hj, hk => by
    obtain ⟨k, rfl⟩ : ∃ m, k = m + 1 := ⟨k - 1, by omega⟩
    simp only [api_Midi_60.l0]
    rw [if_pos (by omega), if_pos (by omega), if_pos (by omega), last_f, Option.bind_some]
    have e1 : wrap64 ((i : Int) + 1) = ((i + 1 : Nat) : Int) := by rw [w64 (by omega) (by omega)]; omega
    rw [rd_drop l i (by omega), fIdx, e1, idx60_l0 l hl j (i + 1) k (by omega) (by omega)]
    split <;> rfl
theorem idx60_ev (l : List Msg) (hl : l.length ≤ 1000000000) : Ev (fun k => api_Midi_60.f k l) (fIdx isEnd l 0) :=
  ⟨l.length + 1, fun k hk => idx60_l0 l hl l.length 0 k (by omega) (by omega)⟩
def wrongM (m : Msg) : Bool := !decide (Right m)
theorem check1_f (m : Msg) (k : Nat) (hk : 6 ≤ k) : smf_Check_1.f k m.f0 m.f1 m.f2 m.f3 m.f4 m.f5 = some (wrongM m) := by
  unfold smf_Check_1.f
  rw [right_f m k hk]
  rfl
theorem idx31_l0 (l : List Msg) (hl : l.length ≤ 1000000000) : ∀ (j i k : Nat), i + j = l.length → j + 6 < k → smf_Parse_1.l0 k l (l.length : Int) (i : Int) = some (fIdx wrongM (l.drop i) i)
  | 0, i, k, hj, hk => by
    obtain ⟨k, rfl⟩ : ∃ m, k = m + 1 := ⟨k - 1, by omega⟩
    simp only [smf_Parse_1.l0]
    rw [if_neg (by omega), List.drop_eq_nil_of_le (by omega)]
    rfl
  | j + 1, i, k, hj, hk => by
    obtain ⟨k, rfl⟩ : ∃ m, k = m + 1 := ⟨k - 1, by omega⟩
    simp only [smf_Parse_1.l0]
    rw [if_pos (by omega), if_pos (by omega), if_pos (by omega), check1_f _ k (by omega), Option.bind_some]
    have e1 : wrap64 ((i : Int) + 1) = ((i + 1 : Nat) : Int) := by rw [w64 (by omega) (by omega)]; omega
    rw [rd_drop l i (by omega), fIdx, e1, idx31_l0 l hl j (i + 1) k (by omega) (by omega)]
    split <;> rfl
theorem fIdx_none {p : Msg → Bool} : ∀ {l : List Msg} {i : Nat}, (∀ m ∈ l, p m = false) → fIdx p l i = -1
  | [], _, _ => rfl
  | m :: r, i, h => by
    rw [fIdx, if_neg (by rw [h m (by simp)]; decide)]
    exact fIdx_none (fun x hx => h x (by simp [hx]))
theorem fIdx_some {p : Msg → Bool} : ∀ {l : List Msg} {i : Nat}, (∃ m ∈ l, p m = true) → 0 ≤ fIdx p l i ∧ (i : Int) ≤ fIdx p l i ∧ fIdx p l i < i + l.length
  | [], _, h => by obtain ⟨m, hm, _⟩ := h; cases hm
  | m :: r, i, h => by
    rw [fIdx]
    by_cases c : p m = true
    · rw [if_pos c, List.length_cons]; omega
    · rw [if_neg c]
      obtain ⟨x, hx, hp⟩ := h
      rcases List.mem_cons.1 hx with rfl | hx
      · exact absurd hp c
      · have := fIdx_some (p := p) (l := r) (i := i + 1) ⟨x, hx, hp⟩
        rw [List.length_cons]
        omega
theorem odd_ev (l : List Msg) (hl : l.length ≤ 1000000000) : Ev (fun k => api_Midi_39.f k l) (l.any wrongM) := by
  have h : Ev (fun k => smf_Parse_1.f k l) (fIdx wrongM l 0) := ⟨l.length + 7, fun k hk => idx31_l0 l hl l.length 0 k (by omega) (by omega)⟩
  refine Ev.ok (Ev.bind h (Ev.now _)) ?_
  by_cases c : ∃ m ∈ l, wrongM m = true
  · have := (fIdx_some (i := 0) c).1
    rw [decide_eq_true (by omega)]
    exact (List.any_eq_true.2 c).symm
  · have h2 : ∀ m ∈ l, wrongM m = false := fun m hm => by
      cases hw : wrongM m
      · rfl
      · exact absurd ⟨m, hm, hw⟩ c
    rw [fIdx_none h2]
    rw [Bool.eq_false_iff.2 (fun hc => c (List.any_eq_true.1 hc))]
    rfl
theorem any_wrong (l : List Msg) : l.any wrongM = true ↔ ¬ Rights l := by
  rw [List.any_eq_true]
  unfold wrongM Rights
  constructor
  · rintro ⟨m, hm, h⟩ hr
    simp [hr m hm] at h
  · intro h
    refine Classical.byContradiction fun hn => h fun m hm => Classical.byContradiction fun hc => hn ⟨m, hm, by simp [hc]⟩
def endsB : List Msg → Bool
  | [] => false
  | [m] => isEnd m
  | m :: n :: r => !isEnd m && endsB (n :: r)
theorem fIdx_ends : ∀ (l : List Msg) (i : Nat), l ≠ [] → (fIdx isEnd l i == (i : Int) + l.length - 1) = endsB l
  | [], _, h => absurd rfl h
  | [m], i, _ => by
    rw [fIdx, endsB]
    cases isEnd m
    · simp [fIdx] <;> omega
    · simp
  | m :: n :: r, i, _ => by
    rw [fIdx, endsB]
    have ih := fIdx_ends (n :: r) (i + 1) (by simp)
    cases isEnd m
    · rw [if_neg (by decide), ← ih]
      simp only [List.length_cons, Bool.not_false, Bool.true_and]
      congr 1
      omega
    · rw [if_pos rfl]
      simp only [List.length_cons, Bool.not_true, Bool.false_and]
      exact beq_eq_false_iff_ne.mpr (by omega)
theorem ends_ev (l : List Msg) (hl : l.length ≤ 1000000000) : Ev (fun k => smf_ends.f k l) (endsB l) := by
  by_cases c : (l.length : Int) > 0
  · refine Ev.yes c (Ev.ok (Ev.bind (idx60_ev l hl) (Ev.now _)) ?_)
    rw [w64 (by omega) (by omega), ← fIdx_ends l 0 (by intro h; rw [h] at c; simp at c)]
    simp
  · refine Ev.no c (Ev.ok (Ev.now _) ?_)
    have : l = [] := List.eq_nil_of_length_eq_zero (by omega)
    rw [this]
    rfl
theorem endsB_snoc : ∀ {a : List Msg} {e : Msg}, isEnd e = true → (∀ m ∈ a, isEnd m = false) → endsB (a ++ [e]) = true
  | [], e, h, _ => h
  | [m], e, h, k => by
    show (!isEnd m && isEnd e) = true
    rw [h, k m (by simp)]
    rfl
  | m :: n :: r, e, h, k => by
    show (!isEnd m && endsB ((n :: r) ++ [e])) = true
    rw [endsB_snoc h (fun x hx => k x (by simp [hx])), k m (by simp)]
    rfl
theorem endsB_ne {l : List Msg} (h : endsB l = true) : l ≠ [] := by rintro rfl; cases h
noncomputable def checkL : List (List Msg) → Int → Int × Int
  | [], _ => (0, 0)
  | l :: r, i => if l.any wrongM = true then (i, 151) else if endsB l = true then checkL r (i + 1) else (i, 160)
def headBad (f d : Int) (n : Nat) : Bool := decide (f < 0) || decide (f > 1) || decide (d < 1) || decide (d > 32767) || decide (n < 1) || decide (n > 16) || (decide (n > 1) && decide (f = 0))
noncomputable def checkM (f d : Int) (ts : List (List Msg)) : Int × Int := if headBad f d ts.length = true then (0, 160) else checkL ts 0
theorem rdL_drop (l : List (List Msg)) (i : Nat) (h : i < l.length) : l.drop i = rd_L3 l (i : Int) :: l.drop (i + 1) := by
  rw [List.drop_eq_getElem_cons h]
  unfold rd_L3
  rw [Int.toNat_natCast, List.getD_eq_getElem?_getD, List.getElem?_eq_getElem h]
  rfl
theorem rdL_mem (l : List (List Msg)) (i : Nat) (h : i < l.length) : rd_L3 l (i : Int) ∈ l := by
  unfold rd_L3
  rw [Int.toNat_natCast, List.getD_eq_getElem?_getD, List.getElem?_eq_getElem h]
  exact List.getElem_mem h
def Small (ts : List (List Msg)) : Prop := ts.length ≤ 1000000000 ∧ ∀ l ∈ ts, l.length ≤ 1000000000
theorem check_l0 (ts : List (List Msg)) (hs : Small ts) : ∀ (j i : Nat), i + j = ts.length → Ev (fun k => smf_Check.l0 k ts (ts.length : Int) (i : Int)) (checkL (ts.drop i) i)
  | 0, i, hj => by
    refine Ev.step (fun k => by rw [smf_Check.l0]) ?_
    refine Ev.no (by omega) (Ev.ok (Ev.now _) ?_)
    rw [List.drop_eq_nil_of_le (by omega)]
    rfl
  | j + 1, i, hj => by
    refine Ev.step (fun k => by rw [smf_Check.l0]) ?_
    refine Ev.yes (by omega) (Ev.yes (by omega) (Ev.yes (by omega) ?_))
    have hl : (rd_L3 ts (i : Int)).length ≤ 1000000000 := hs.2 _ (rdL_mem ts i (by omega))
    refine Ev.bind (odd_ev _ hl) ?_
    rw [rdL_drop ts i (by omega), checkL]
    have e1 : wrap64 ((i : Int) + 1) = ((i + 1 : Nat) : Int) := by have := hs.1; rw [w64 (by omega) (by omega)]; omega
    by_cases c : (rd_L3 ts (i : Int)).any wrongM = true
    · rw [if_pos c]
      exact Ev.yes c (Ev.now _)
    · rw [if_neg c]
      refine Ev.no c (Ev.bind (ends_ev _ hl) ?_)
      by_cases c2 : endsB (rd_L3 ts (i : Int)) = true
      · rw [if_pos c2]
        refine Ev.yes c2 ?_
        rw [e1]
        have := check_l0 ts hs j (i + 1) (by omega)
        rw [show (((i + 1 : Nat) : Int)) = (i : Int) + 1 by omega] at this ⊢
        exact this
      · rw [if_neg c2]
        exact Ev.no c2 (Ev.now _)
theorem check_j0 (f d : Int) (ts : List (List Msg)) (hs : Small ts) (b : Bool) : Ev (fun k => smf_Check.j0 k b f d ts) (if b = true then (0, 160) else checkL ts 0) := by
  refine Ev.step (fun k => by rw [smf_Check.j0]) ?_
  cases b
  · exact Ev.no (by decide) (check_l0 ts hs ts.length 0 (by omega))
  · exact Ev.yes rfl (Ev.now _)
theorem check_ev (f d : Int) (ts : List (List Msg)) (hs : Small ts) : Ev (fun k => smf_Check.f k f d ts) (checkM f d ts) := by
  unfold checkM headBad
  show Ev (fun k => if f < 0 then _ else _) _
  by_cases c1 : f < 0
  · exact Ev.yes c1 (Ev.ok (check_j0 f d ts hs true) (by simp [c1]))
  refine Ev.no c1 ?_
  by_cases c2 : f > 1
  · exact Ev.yes c2 (Ev.ok (check_j0 f d ts hs true) (by simp [c2]))
  refine Ev.no c2 ?_
  by_cases c3 : d < 1
  · exact Ev.yes c3 (Ev.ok (check_j0 f d ts hs true) (by simp [c3]))
  refine Ev.no c3 ?_
  by_cases c4 : d > 32767
  · exact Ev.yes c4 (Ev.ok (check_j0 f d ts hs true) (by simp [c4]))
  refine Ev.no c4 ?_
  by_cases c5 : (ts.length : Int) < 1
  · have c5' : ts.length < 1 := by omega
    exact Ev.yes c5 (Ev.ok (check_j0 f d ts hs true) (by simp [c5']))
  refine Ev.no c5 ?_
  have c5' : ¬ ts.length < 1 := by omega
  by_cases c6 : (ts.length : Int) > 16
  · have c6' : ts.length > 16 := by omega
    exact Ev.yes c6 (Ev.ok (check_j0 f d ts hs true) (by simp [c6']))
  refine Ev.no c6 ?_
  have c6' : ¬ ts.length > 16 := by omega
  by_cases c7 : (ts.length : Int) > 1
  · have c7' : ts.length > 1 := by omega
    refine Ev.yes c7 (Ev.ok (check_j0 f d ts hs (f == 0)) ?_)
    by_cases c8 : f = 0 <;> simp [c1, c2, c3, c4, c5', c6', c7', c8]
  · have c7' : ¬ ts.length > 1 := by omega
    refine Ev.no c7 (Ev.ok (check_j0 f d ts hs false) ?_)
    simp [c1, c2, c3, c4, c5', c6', c7']
theorem checkL_ok : ∀ {ts : List (List Msg)} {i : Int}, (∀ l ∈ ts, Rights l ∧ endsB l = true) → checkL ts i = (0, 0)
  | [], _, _ => rfl
  | l :: r, i, h => by
    obtain ⟨h1, h2⟩ := h l (by simp)
    rw [checkL, if_neg (fun c => (any_wrong l).1 c h1), if_pos h2]
    exact checkL_ok (fun x hx => h x (by simp [hx]))
theorem checkL_e : ∀ {ts : List (List Msg)} {i : Int}, (checkL ts i).2 = 0 → ∀ l ∈ ts, Rights l ∧ endsB l = true
  | [], _, _ => fun l hl => by cases hl
  | l :: r, i, h => by
    rw [checkL] at h
    by_cases c : l.any wrongM = true
    · rw [if_pos c] at h; cases h
    · rw [if_neg c] at h
      by_cases c2 : endsB l = true
      · rw [if_pos c2] at h
        intro x hx
        rcases List.mem_cons.1 hx with rfl | hx
        · exact ⟨Classical.byContradiction fun hn => c ((any_wrong x).2 hn), c2⟩
        · exact checkL_e h x hx
      · rw [if_neg c2] at h; cases h
theorem S28_ext {a b : Msg} (h0 : a.f0 = b.f0) (h1 : a.f1 = b.f1) (h2 : a.f2 = b.f2) (h3 : a.f3 = b.f3) (h4 : a.f4 = b.f4) (h5 : a.f5 = b.f5) : a = b := by
  cases a; cases b; cases h0; cases h1; cases h2; cases h3; cases h4; cases h5; rfl
noncomputable instance : DecidableEq Msg := fun a b => Classical.propDecidable _
def diffB (a b : Msg) : Bool := (!((a.f0) == (b.f0)) || (!((a.f1) == (b.f1)) || (!((a.f2) == (b.f2)) || (!((a.f3) == (b.f3)) || (!((a.f4) == (b.f4)) || (!(((a.f5).toList) == ((b.f5).toList))))))))
theorem diffB_iff (a b : Msg) : diffB a b = true ↔ a ≠ b := by
  unfold diffB
  simp only [Bool.or_eq_true, Bool.not_eq_true', beq_eq_false_iff_ne, ne_eq]
  constructor
  · rintro h rfl
    simp at h
  · intro h
    refine Classical.byContradiction fun hn => h ?_
    simp only [not_or, Decidable.not_not] at hn
    obtain ⟨h0, h1, h2, h3, h4, h5⟩ := hn
    exact S28_ext h0 h1 h2 h3 h4 (toList_eq.1 h5)
theorem eq27_l0 (a b : List Msg) (hl : a.length ≤ 1000000000) (he : a.length = b.length) : ∀ (j i k : Nat), i + j = a.length → j < k → ∃ r, api_Midi_27.l0 k a b (a.length : Int) (i : Int) = some r ∧ (r = true ↔ a.drop i = b.drop i)
  | 0, i, k, hj, hk => by
    obtain ⟨k, rfl⟩ : ∃ m, k = m + 1 := ⟨k - 1, by omega⟩
    simp only [api_Midi_27.l0]
    rw [if_neg (by omega), List.drop_eq_nil_of_le (by omega), List.drop_eq_nil_of_le (by omega)]
    exact ⟨true, rfl, by simp⟩
  | j + 1, i, k, hj, hk => by
    obtain ⟨k, rfl⟩ : ∃ m, k = m + 1 := ⟨k - 1, by omega⟩
    simp only [api_Midi_27.l0]
    rw [if_pos (by omega), if_pos (by omega), if_pos (by omega), if_pos (by omega)]
    have e1 : wrap64 ((i : Int) + 1) = ((i + 1 : Nat) : Int) := by rw [w64 (by omega) (by omega)]; omega
    rw [rd_drop a i (by omega), rd_drop b i (by omega), e1]
    show ∃ r, (if diffB (rd_T28 a (i : Int)) (rd_T28 b (i : Int)) = true then some false else api_Midi_27.l0 k a b (a.length : Int) ((i + 1 : Nat) : Int)) = some r ∧ _
    by_cases c : diffB (rd_T28 a (i : Int)) (rd_T28 b (i : Int)) = true
    · rw [if_pos c]
      refine ⟨false, rfl, ?_⟩
      have := (diffB_iff _ _).1 c
      simp [this]
    · rw [if_neg c]
      obtain ⟨r, h1, h2⟩ := eq27_l0 a b hl he j (i + 1) k (by omega) (by omega)
      refine ⟨r, h1, ?_⟩
      have : rd_T28 a (i : Int) = rd_T28 b (i : Int) := Classical.byContradiction fun hn => c ((diffB_iff _ _).2 hn)
      rw [h2, this, List.cons.injEq]
      simp
theorem eq27_ev (a b : List Msg) (hl : a.length ≤ 1000000000) : Ev (fun k => api_Midi_27.f k a b) (decide (a = b)) := by
  by_cases c : (a.length : Int) = (b.length : Int)
  · refine ⟨a.length + 1, fun k hk => ?_⟩
    show (if (a.length : Int) = (b.length : Int) then _ else _) = _
    rw [if_pos c]
    obtain ⟨r, h1, h2⟩ := eq27_l0 a b hl (by omega) a.length 0 k (by omega) (by omega)
    rw [show ((0 : Nat) : Int) = 0 from rfl] at h1
    rw [h1]
    simp only [List.drop_zero] at h2
    congr 1
    rw [Bool.eq_iff_iff, h2, decide_eq_true_eq]
  · refine Ev.no c (Ev.ok (Ev.now _) ?_)
    rw [decide_eq_false (by rintro rfl; exact c rfl)]
theorem eq26_l0 (a b : List (List Msg)) (hs : Small a) (he : a.length = b.length) : ∀ (j i : Nat), i + j = a.length → Ev (fun k => api_Midi_26.l0 k b a (a.length : Int) (i : Int)) (decide (a.drop i = b.drop i))
  | 0, i, hj => by
    refine Ev.step (fun k => by rw [api_Midi_26.l0]) (Ev.no (by omega) (Ev.ok (Ev.now _) ?_))
    rw [List.drop_eq_nil_of_le (by omega), List.drop_eq_nil_of_le (by omega)]
    simp
  | j + 1, i, hj => by
    refine Ev.step (fun k => by rw [api_Midi_26.l0]) (Ev.yes (by omega) (Ev.yes (by omega) (Ev.yes (by omega) (Ev.yes (by omega) ?_))))
    have hl : (rd_L3 a (i : Int)).length ≤ 1000000000 := hs.2 _ (rdL_mem a i (by omega))
    have e1 : wrap64 ((i : Int) + 1) = ((i + 1 : Nat) : Int) := by have := hs.1; rw [w64 (by omega) (by omega)]; omega
    refine Ev.bind (eq27_ev _ _ hl) ?_
    rw [rdL_drop a i (by omega), rdL_drop b i (by omega), e1]
    by_cases c : rd_L3 a (i : Int) = rd_L3 b (i : Int)
    · refine Ev.yes (decide_eq_true c) (Ev.ok (eq26_l0 a b hs he j (i + 1) (by omega)) ?_)
      rw [c]
      simp
    · refine Ev.no (by simp [c]) (Ev.ok (Ev.now _) ?_)
      simp [c]
theorem same_ev (f d : Int) (a : List (List Msg)) (f' d' : Int) (b : List (List Msg)) (hs : Small a) : Ev (fun k => smf_Same.f k f d a f' d' b) (decide (f = f' ∧ d = d' ∧ a = b)) := by
  show Ev (fun k => if f = f' then _ else _) _
  by_cases c1 : f = f'
  · refine Ev.yes c1 ?_
    by_cases c2 : d = d'
    · refine Ev.yes c2 ?_
      have h : Ev (fun k => api_Midi_26.f k a b) (decide (a = b)) := by
        by_cases c3 : (a.length : Int) = (b.length : Int)
        · exact Ev.yes c3 (eq26_l0 a b hs (by omega) a.length 0 (by omega))
        · refine Ev.no c3 (Ev.ok (Ev.now _) ?_)
          rw [decide_eq_false (by rintro rfl; exact c3 rfl)]
      refine Ev.ok (Ev.bind h (Ev.now _)) ?_
      simp [c1, c2]
    · refine Ev.no c2 (Ev.ok (Ev.now _) ?_)
      simp [c2]
  · refine Ev.no c1 (Ev.ok (Ev.now _) ?_)
    simp [c1]
end Go.Proofs.Ytdmnknhlibaaoaa.Z
namespace Go.Proofs.Ytdmnknhlibaaoaa.M
open Go.RowKit Go.Proofs.YtdmnknhlibaaoaaW.PrintWords Go.Proofs.YtdmnknhlibaaoaaW.PrintLast Go.Proofs.YtdmnknhlibaaoaaW.PrintMore
set_option linter.unusedVariables false
set_option linter.unusedSimpArgs false
def MkRow (w : World) (base : Nat) (v : Value) (xs : List Int) : Prop :=
  ∃ g fz, v = .slice (some ⟨g, 0, none⟩) xs.length xs.length ∧ base ≤ g ∧ w.heap[g]? = some (.cells (nums .u8 xs).toArray 5 fz)
theorem MkRow.lt {w : World} {base : Nat} {v : Value} {xs : List Int} (h : MkRow w base v xs) : ∃ g, v = .slice (some ⟨g, 0, none⟩) xs.length xs.length ∧ g < w.heap.size := by
  obtain ⟨g, fz, rfl, _, hg⟩ := h
  exact ⟨g, rfl, blk_lt hg⟩
theorem MkRow.below {w w1 : World} {base : Nat} {v : Value} {xs : List Int} (h : MkRow w base v xs) (hb : Below w.heap.size w w1) : MkRow w1 base v xs := by
  obtain ⟨g, fz, rfl, h0, hg⟩ := h
  exact ⟨g, fz, rfl, h0, (hb.block g (blk_lt hg)).trans hg⟩
theorem MkRow.alloc {w : World} {base : Nat} {v : Value} {xs : List Int} (h : MkRow w base v xs) (o : Obj) : MkRow (w.alloc o) base v xs := by
  obtain ⟨g, fz, rfl, h0, hg⟩ := h
  exact ⟨g, fz, rfl, h0, blk_alloc hg o⟩
theorem MkRow.drew {w : World} {base : Nat} {v : Value} {xs : List Int} (h : MkRow w base v xs) : MkRow w.drew base v xs := by
  obtain ⟨g, fz, rfl, h0, hg⟩ := h
  exact ⟨g, fz, rfl, h0, blk_drew hg⟩
theorem MkRow.start (w6 : World) {base : Nat} {y : List Int} (hy : y = [77, 84, 104, 100, 0, 0, 0, 6]) (h : base ≤ w6.heap.size) : MkRow (w6.alloc (.cells #[.int .u8 77, .int .u8 84, .int .u8 104, .int .u8 100, .int .u8 0, .int .u8 0, .int .u8 0, .int .u8 6] 5 (8, 9))) base (.slice (some ⟨w6.heap.size, 0, none⟩) 8 8) y := by
  subst hy
  exact ⟨w6.heap.size, (8, 9), rfl, h, by simpa [nums] using heap_alloc_new w6 (.cells #[.int .u8 77, .int .u8 84, .int .u8 104, .int .u8 100, .int .u8 0, .int .u8 0, .int .u8 0, .int .u8 6] 5 (8, 9))⟩
theorem mark_append {P : Program} {ops : Array Oper} {rest : List Oper} {o : Oper} {a : Act} {Q : Exit → Act → World → Prop} {w0 W : World} (base : Nat) (hgd : o.guard = none) (s x : Operand) (t : TypeId)
    (ho : o.op = .call { callee := .builtin .append, args := #[s, x], argTypes := #[t, t] })
    (ht : P.underlying t = some (.slice 5)) (hinfo : (P.info? 5).map (fun i => (i.zero, i.size, i.bytes)) = some (some (.int .u8 0), 1, 1))
    (v : Value) (xs ys : List Int) (A : Option Addr) (m c : Nat) (b0 : Nat) (ok : Nat → Prop) (hs : a.eval s = v) (hx : a.eval x = .slice A m c) (hm : 0 < m)
    (HO : MkRow W base v xs) (HY : Kd.R (Kd.int .u8) 5 W b0 ok (.slice A m c) ys)
    (HB : Below base w0 W) (hbase : base ≤ W.heap.size) (hl : xs.length + m ≤ 140737488355328)
    (h : ∀ v1 w1, Kd.R (Kd.int .u8) 5 w1 base (fun _ => True) v1 (xs ++ ys) → Below base w0 w1 → W.grownBy w1 none → (∃ b, v1.ownBlock = some b ∧ W.heap.size ≤ b) → wpList P ops Q rest (a.put o.dst v1) w1) :
    wpList P ops Q (o :: rest) a W := by
  obtain ⟨i0, hi, hzz⟩ := Option.map_eq_some_iff.1 hinfo
  simp only [Prod.mk.injEq] at hzz
  obtain ⟨hz0, hz1, hz2⟩ := hzz
  have hym : m = ys.length := (Kd.R_reads' HY).1
  have hy := Kd.own_of_R HY
  obtain ⟨g, fz, rfl, hg0, hg⟩ := HO
  rcases hy.2 with ⟨he, _⟩ | ⟨gy, capy, cury, hey, hgy, hhy, hny, hcy, hsy, hty⟩
  · injection he with _ he _
    omega
  · injection hey with h1 h2 h3
    subst h1
    refine wpList_append_grows W hgd s x t ho 5 i0 (.int .u8 0) 1 1 ht hi hz0 hz1 hz2 rfl (by decide) (some ⟨g, 0, none⟩) xs.length xs.length (nums .u8 xs) hs (by simp) (by rw [nums_length]; omega) ?_
      ⟨gy, 0, none⟩ m c (nums .u8 ys) hx (by rw [nums_length]; omega) ?_ ?_ (by omega) (by simp only [maxLen]; omega) (by omega) ?_
    · intro b hb j u hj
      injection hb with hb
      subst hb
      rw [Addr.add_lit, Nat.zero_add]
      simp only [World.cell?, hg]
      simpa using hj
    · intro j u hj
      rw [Addr.add_lit, Nat.zero_add]
      simp only [World.cell?, hhy]
      have hj2 : (encs (Value.int .u8) ys)[j]? = some u := hj
      rw [← hty] at hj2
      rw [List.getElem?_take] at hj2
      split at hj2
      · simpa using hj2
      · cases hj2
    · intro u hu
      simp only [nums, List.mem_map] at hu
      obtain ⟨q, _, rfl⟩ := hu
      rfl
    · intro v1 w1 hown hgr
      have hlen : (xs ++ ys).length = xs.length + m := by rw [List.length_append]; omega
      rw [← nums_append, ← hlen] at hown
      have hR : Kd.R (Kd.int .u8) 5 w1 W.heap.size (fun _ => True) v1 (xs ++ ys) := Kd.R_of_own (h1 := fun _ => rfl) (ok := fun _ => True) hown (fun _ _ => trivial)
      refine h v1 w1 (Kd.R_lower hR hbase) (HB.grown hgr hbase (by simp)) hgr ?_
      rcases hown.2 with ⟨rfl, h0⟩ | ⟨g1, cap1, cur1, rfl, hg1, _⟩
      · omega
      · exact ⟨g1, rfl, hg1⟩
end Go.Proofs.Ytdmnknhlibaaoaa.M
namespace Go.Proofs.Ytdmnknhlibaaoaa.M
open Go.RowKit Go.Proofs.YtdmnknhlibaaoaaW.PrintWords Go.Proofs.YtdmnknhlibaaoaaW.PrintLast Go.Proofs.YtdmnknhlibaaoaaW.PrintMore
attribute [local go_sem] max2_int min2_int max_two min_two max_three min_three max_four min_four
set_option linter.unusedVariables false
set_option linter.unusedSimpArgs false
mutual
def smf_Print.l0 : Nat → List Int → List Int → Int → Int → Int → Int → List (List (S28)) → Option (ByteArray × Int)
  | 0, _, _, _, _, _, _, _ => none
  | k + 1, x6, x31, x32, x33, x102000, x102001, x102002 => if x33 < x32 then (if 0 ≤ x33 then (if x33 < (x31.length : Int) then ((some (([((rd x31 x33) / 256) % 256, (rd x31 x33) % 256] : List Int) : List Int)).bind fun y111 => (if x6.length + y111.length < 140737488355328 then (smf_Print.l0 k (x6 ++ y111) x31 x32 (wrap64 (x33 + 1)) x102000 x102001 x102002) else (none))) else (none)) else (none)) else (smf_Print.l1 k x6 x102002 (x102002.length : Int) 0)
def smf_Print.l1 : Nat → List Int → List (List (S28)) → Int → Int → Option (ByteArray × Int)
  | 0, _, _, _, _ => none
  | k + 1, x6, x47, x48, x49 => if x49 < x48 then (if 0 ≤ x49 then (if x49 < (x47.length : Int) then ((wire_Encode.f k (rd_L3 x47 x49)).bind fun bt118 => (if x6.length + 4 < 140737488355328 then ((some (x6 ++ bytesOf (⟨#[77, 84, 114, 107]⟩ : ByteArray) : List Int)).bind fun y120 => ((some (([((bt118.1.size : Int) / 16777216) % 256, ((bt118.1.size : Int) / 65536) % 256, ((bt118.1.size : Int) / 256) % 256, ((bt118.1.size : Int)) % 256] : List Int) : List Int)).bind fun y123 => (if y120.length + y123.length < 140737488355328 then ((some (y120 ++ y123 : List Int)).bind fun y126 => (if y126.length + bt118.1.size < 140737488355328 then (smf_Print.l1 k (y126 ++ bytesOf bt118.1) x47 x48 (wrap64 (x49 + 1))) else (none))) else (none)))) else (none))) else (none)) else (none)) else (if (x6.length : Int) > 100000 then (some ((⟨#[]⟩ : ByteArray), 160)) else (some (strOfNums x6, 0)))
end
def smf_Print.f (k : Nat) (a0_0 : Int) (a0_1 : Int) (l0_2 : List (List (S28))) : Option (ByteArray × Int) := (smf_Check.f k a0_0 a0_1 l0_2).bind fun bt102 => (if bt102.2 = 0 then ((some (([a0_0, (l0_2.length : Int), a0_1] : List Int) : List Int)).bind fun y107 => (smf_Print.l0 k (([77, 84, 104, 100, 0, 0, 0, 6] : List Int)) y107 (y107.length : Int) 0 a0_0 a0_1 l0_2)) else (some ((⟨#[]⟩ : ByteArray), bt102.2)))
theorem smf_Print.mono_l : ∀ k, (∀ y0 y1 y2 y3 y4 y5 y6, LeO (smf_Print.l0 k y0 y1 y2 y3 y4 y5 y6) (smf_Print.l0 (k + 1) y0 y1 y2 y3 y4 y5 y6)) ∧ (∀ y0 y1 y2 y3, LeO (smf_Print.l1 k y0 y1 y2 y3) (smf_Print.l1 (k + 1) y0 y1 y2 y3))
  | 0 => ⟨fun _ _ _ _ _ _ _ r h => by simp [smf_Print.l0] at h, fun _ _ _ _ r h => by simp [smf_Print.l1] at h⟩
  | k + 1 => by
    obtain ⟨ih0, ih1⟩ := smf_Print.mono_l k
    refine ⟨?_, ?_⟩
    · intro y0 y1 y2 y3 y4 y5 y6
      unfold smf_Print.l0
      repeat' first
      | (with_reducible exact ih0 _ _ _ _ _ _ _)
      | (with_reducible exact ih1 _ _ _ _)
      | (with_reducible exact smf_Check.mono _ _ _ _)
      | (with_reducible exact wire_Encode.mono _ _)
      | (with_reducible exact LeO.refl _)
      | (with_reducible exact LeO.none _)
      | (with_reducible refine LeO.ite ?_ ?_)
      | (with_reducible refine LeO.bind ?_ (fun _ => ?_))
      | exact ih0 _ _ _ _ _ _ _
      | exact ih1 _ _ _ _
      | exact smf_Check.mono _ _ _ _
      | exact wire_Encode.mono _ _
      | exact LeO.none _
      | refine LeO.ite ?_ ?_
      | refine LeO.bind ?_ (fun _ => ?_)
    · intro y0 y1 y2 y3
      unfold smf_Print.l1
      repeat' first
      | (with_reducible exact ih0 _ _ _ _ _ _ _)
      | (with_reducible exact ih1 _ _ _ _)
      | (with_reducible exact smf_Check.mono _ _ _ _)
      | (with_reducible exact wire_Encode.mono _ _)
      | (with_reducible exact LeO.refl _)
      | (with_reducible exact LeO.none _)
      | (with_reducible refine LeO.ite ?_ ?_)
      | (with_reducible refine LeO.bind ?_ (fun _ => ?_))
      | exact ih0 _ _ _ _ _ _ _
      | exact ih1 _ _ _ _
      | exact smf_Check.mono _ _ _ _
      | exact wire_Encode.mono _ _
      | exact LeO.none _
      | refine LeO.ite ?_ ?_
      | refine LeO.bind ?_ (fun _ => ?_)
theorem smf_Print.mono : ∀ a0 a1 a2 k, LeO (smf_Print.f k a0 a1 a2) (smf_Print.f (k + 1) a0 a1 a2) := by
  intro a0 a1 a2 k
  obtain ⟨ih0, ih1⟩ := smf_Print.mono_l k
  unfold smf_Print.f
  repeat' first
      | (with_reducible exact ih0 _ _ _ _ _ _ _)
      | (with_reducible exact ih1 _ _ _ _)
      | (with_reducible exact smf_Check.mono _ _ _ _)
      | (with_reducible exact wire_Encode.mono _ _)
      | (with_reducible exact LeO.refl _)
      | (with_reducible exact LeO.none _)
      | (with_reducible refine LeO.ite ?_ ?_)
      | (with_reducible refine LeO.bind ?_ (fun _ => ?_))
      | exact ih0 _ _ _ _ _ _ _
      | exact ih1 _ _ _ _
      | exact smf_Check.mono _ _ _ _
      | exact wire_Encode.mono _ _
      | exact LeO.none _
      | refine LeO.ite ?_ ?_
      | refine LeO.bind ?_ (fun _ => ?_)
set_option maxHeartbeats 8000000 in
set_option maxRecDepth 100000 in
theorem smf_Print.calls (k : Nat) (a0_0 : Int) (a0_1 : Int) (A0_2 : Option Addr) (c0_2 : Nat) (l0_2 : List (List (S28))) (r1 : ByteArray) (r2 : Int) (w : World) (hr0_2 : Kd.C (Kd.slice 28 k28) w A0_2 l0_2.length l0_2) (hc0_2 : l0_2.length ≤ c0_2) (h : smf_Print.f k a0_0 a0_1 l0_2 = some (r1, r2)) :
    Calls Try.prog 15 #[.agg #[.int .i64 a0_0, .int .i64 a0_1, .slice A0_2 l0_2.length c0_2]] w fun e w' => e = .returned (.tuple #[.string r1, .int .i64 r2]) ∧ Below w.heap.size w w' := by
  have hu24 := Try.underlying24
  have HR0_2 := Aside0.mk hr0_2
  have HC0_2 := Aside0.mk hc0_2
  clear hr0_2 hc0_2
  have HB := Aside0.mk (Below.refl w.heap.size w)
  have H := h
  unfold smf_Print.f at H
  clear h
  replace H := Option.bind_eq_some_iff.mp H
  obtain ⟨⟨t102, t103⟩, A20, H⟩ := H
  try dsimp -simprocs only at H
  have A2 := Aside0.mk A20
  clear A20
  have hcv : ∀ (W : World), (convert 39 39 (.slice (some ⟨W.heap.size, 0, none⟩) 8 8)).run Try.prog (W.alloc (.cells #[.int .u8 77, .int .u8 84, .int .u8 104, .int .u8 100, .int .u8 0, .int .u8 0, .int .u8 0, .int .u8 6] 5)) = .ok (.slice (some ⟨W.heap.size, 0, none⟩) 8 8) (W.alloc (.cells #[.int .u8 77, .int .u8 84, .int .u8 104, .int .u8 100, .int .u8 0, .int .u8 0, .int .u8 0, .int .u8 6] 5 (8, 9))) := fun W => Lib.run_convert_bytes_const W 39 5 #[.int .u8 77, .int .u8 84, .int .u8 104, .int .u8 100, .int .u8 0, .int .u8 0, .int .u8 0, .int .u8 6] 8 8 Try.underlying39 Try.underlying5
  by_cases c3 : t103 = 0
  rotate_left
  · rw [if_neg c3] at H
    have c3b0 : (t103 == 0) = false := beq_eq_false_iff_ne.mpr c3
    have c3b1 : (t103 != 0) = true := bne_iff_ne.mpr c3
    simp only [Option.some.injEq, Prod.mk.injEq] at H
    obtain ⟨rfl, rfl⟩ := H
    go_enter Try.func15, Try.ntmps15
    go_wp2_with (first | ((with_reducible refine gate_dst (N := 1) rfl ?_); refine box_event ?hg (N := 1) ?hd (cs := #[.int .i64 a0_0, .int .i64 a0_1, .slice A0_2 l0_2.length c0_2]) (t := 24) ?hr ?_; (case hd => rfl); (case hg => rfl); (case hr => exact qq6); intro gb101 hg w40 hbox hb; have BK101 := Aside0.mk (hbox); have GW101 := Aside0.mk ((qq9 : w.heap.size ≤ gb101)); have GE101 := Aside0.mk ((qq9 : w.heap.size ≤ gb101)); replace HB := Aside0.mk (below_step (qB HB.out) hb); clear hb hbox hg; obtain ⟨hcz41_0, hcz41_1, hcz41_2, hfz41_0, hfz41_1, hfz41_2⟩ := blk3 BK101.out) | ((with_reducible refine gate_callee (f := 24) rfl ?_); refine goesL_ (some 16) rfl rfl Try.func24 (by kernel_rfl) rfl #[.agg #[.int .i64 a0_0, .int .i64 a0_1, .slice A0_2 l0_2.length c0_2]] rfl qq0 ?_; (with_reducible refine (smf_Check.calls k a0_0 a0_1 _ _ l0_2 t102 t103 _ ?side1 ?side2 A2.out).mono ?_); (case side1 => repeat (first | exact (Kd.C_below HR0_2.out HB.out) | (with_reducible refine Kd.C_alloc ?_ _) | (with_reducible refine Kd.C_drewN ?_ _) | (with_reducible refine Kd.C_drew ?_))); (case side2 => exact HC0_2.out); rintro e w42 ⟨rfl, hb⟩; refine ⟨_, rfl, ?_⟩; replace BK101 := Aside0.mk (blk_below (bq BK101.out) hb); replace HB := Aside0.mk (below_step (qS1 GE101 HB.out) hb); (try clear hb); (try clear hb2); (try clear hk); (try clear hi)))
    go_ret2
    exact ⟨qq5, qS1 GE101 HB.out⟩
  rw [if_pos c3] at H
  have c3b0 : (t103 == 0) = true := beq_iff_eq.mpr c3
  have c3b1 : (t103 != 0) = false := bne_eq_false_iff_eq.mpr c3
  clear c3
  obtain ⟨y104, hy104⟩ : ∃ y_ : List Int, y_ = (([77, 84, 104, 100, 0, 0, 0, 6] : List Int)) := ⟨_, rfl⟩
  replace H : ((some (([a0_0, (l0_2.length : Int), a0_1] : List Int) : List Int)).bind fun y107 => (smf_Print.l0 k y104 y107 (y107.length : Int) 0 a0_0 a0_1 l0_2)) = some (r1, r2) := by first | (rw [hy104]; with_reducible exact H) | (have H2_ := (Option.bind_some _ _).symm.trans H; rw [hy104]; with_reducible exact H2_) | (have H2_ := (Option.bind_some _ _).symm.trans H; with_reducible exact H2_) | with_reducible exact H | (rw [hy104]; exact H) | exact H
  have Ny104 := Aside0.mk hy104
  clear hy104
  obtain ⟨y107, hy107⟩ : ∃ y_ : List Int, y_ = (([a0_0, (l0_2.length : Int), a0_1] : List Int)) := ⟨_, rfl⟩
  replace H : (smf_Print.l0 k y104 y107 (y107.length : Int) 0 a0_0 a0_1 l0_2) = some (r1, r2) := by first | (rw [hy107]; with_reducible exact H) | (have H2_ := (Option.bind_some _ _).symm.trans H; rw [hy107]; with_reducible exact H2_) | (have H2_ := (Option.bind_some _ _).symm.trans H; with_reducible exact H2_) | with_reducible exact H | (rw [hy107]; exact H) | exact H
  have Ny107 := Aside0.mk hy107
  clear hy107
  have H' := Aside0.mk H
  clear H
  go_enter Try.func15, Try.ntmps15
  go_wp2_with (first | ((with_reducible refine gate_dst (N := 1) rfl ?_); refine box_event ?hg (N := 1) ?hd (cs := #[.int .i64 a0_0, .int .i64 a0_1, .slice A0_2 l0_2.length c0_2]) (t := 24) ?hr ?_; (case hd => rfl); (case hg => rfl); (case hr => exact qq6); intro gb101 hg w4 hbox hb; have BK101 := Aside0.mk (hbox); have GW101 := Aside0.mk ((qq9 : w.heap.size ≤ gb101)); have GE101 := Aside0.mk ((qq9 : w.heap.size ≤ gb101)); replace HB := Aside0.mk (below_step (qB HB.out) hb); clear hb hbox hg; obtain ⟨hcz5_0, hcz5_1, hcz5_2, hfz5_0, hfz5_1, hfz5_2⟩ := blk3 BK101.out) | ((with_reducible refine gate_callee (f := 24) rfl ?_); refine goesL_ (some 16) rfl rfl Try.func24 (by kernel_rfl) rfl #[.agg #[.int .i64 a0_0, .int .i64 a0_1, .slice A0_2 l0_2.length c0_2]] rfl qq0 ?_; (with_reducible refine (smf_Check.calls k a0_0 a0_1 _ _ l0_2 t102 t103 _ ?side1 ?side2 A2.out).mono ?_); (case side1 => repeat (first | exact (Kd.C_below HR0_2.out HB.out) | (with_reducible refine Kd.C_alloc ?_ _) | (with_reducible refine Kd.C_drewN ?_ _) | (with_reducible refine Kd.C_drew ?_))); (case side2 => exact HC0_2.out); rintro e w6 ⟨rfl, hb⟩; refine ⟨_, rfl, ?_⟩; replace BK101 := Aside0.mk (blk_below (bq BK101.out) hb); replace HB := Aside0.mk (below_step (qS1 GE101 HB.out) hb); (try clear hb); (try clear hb2); (try clear hk); (try clear hi); have hcz9_0 : (w6.alloc (.cells #[.int .u8 77, .int .u8 84, .int .u8 104, .int .u8 100, .int .u8 0, .int .u8 0, .int .u8 0, .int .u8 6] 5 (8, 9))).cell? ⟨gb101, 0, none⟩ = some (.int .i64 a0_0) := (blk_cell (blk_alloc BK101.out _) 0).trans rfl; have hfz9_0 := blk_frozen (blk_alloc BK101.out (.cells #[.int .u8 77, .int .u8 84, .int .u8 104, .int .u8 100, .int .u8 0, .int .u8 0, .int .u8 0, .int .u8 6] 5 (8, 9))) 0; have hcz9_1 : (w6.alloc (.cells #[.int .u8 77, .int .u8 84, .int .u8 104, .int .u8 100, .int .u8 0, .int .u8 0, .int .u8 0, .int .u8 6] 5 (8, 9))).cell? ⟨gb101, 1, none⟩ = some (.int .i64 a0_1) := (blk_cell (blk_alloc BK101.out _) 1).trans rfl; have hfz9_1 := blk_frozen (blk_alloc BK101.out (.cells #[.int .u8 77, .int .u8 84, .int .u8 104, .int .u8 100, .int .u8 0, .int .u8 0, .int .u8 0, .int .u8 6] 5 (8, 9))) 1; have hcz9_2 : (w6.alloc (.cells #[.int .u8 77, .int .u8 84, .int .u8 104, .int .u8 100, .int .u8 0, .int .u8 0, .int .u8 0, .int .u8 6] 5 (8, 9))).cell? ⟨gb101, 2, none⟩ = some (.slice A0_2 l0_2.length c0_2) := (blk_cell (blk_alloc BK101.out _) 2).trans rfl; have hfz9_2 := blk_frozen (blk_alloc BK101.out (.cells #[.int .u8 77, .int .u8 84, .int .u8 104, .int .u8 100, .int .u8 0, .int .u8 0, .int .u8 0, .int .u8 6] 5 (8, 9))) 2) | ((with_reducible refine gate_dst (N := 31) rfl ?_); refine Kd.R_lit (Kd.int .i64) _ 3 ?hg (N := 31) ?hd (xs := ([a0_0, (l0_2.length : Int), a0_1] : List Int)) (inner := [.int .i64 a0_0, .int .i64 (l0_2.length : Int), .int .i64 a0_1]) (ok := fun _ => True) (okp := fun _ => True) ?hr ?hp (fun _ hk => hk) trivial (Below.refl _ _) (Nat.le_refl _) (by simp) ?_; (case hd => rfl); (case hg => rfl); (case hr => exact qq6); (case hp => exact (Reps.one (show Kd.M (Kd.int .i64) _ _ _ a0_0 [.int .i64 a0_0] from rfl) (Reps.one (show Kd.M (Kd.int .i64) _ _ _ (l0_2.length : Int) [.int .i64 (l0_2.length : Int)] from rfl) (Reps.one (show Kd.M (Kd.int .i64) _ _ _ a0_1 [.int .i64 a0_1] from rfl) (Reps.none _ _))))); intro v108 w10 ho11 hb hg_ hnew_; clear hg_ hnew_; (first | rw [← Ny107.out] at ho11 | (simp only [Int.reduceToNat] at ho11; rw [← Ny107.out] at ho11)); have HO106 := Aside0.mk (MkRow.below (MkRow.start w6 Ny104.out (below_size HB.out)) hb); have HO109 := Aside0.mk (Kd.R_lower ho11 (below_size (qS1 GE101 HB.out))); replace BK101 := Aside0.mk (blk_below (bq BK101.out) hb); replace HB := Aside0.mk (below_step (qS1 GE101 HB.out) hb); clear hb ho11; obtain ⟨Ao12, co12, eo12⟩ := Kd.R_slice HO109.out; subst eo12))
  go_loopg [6, 33] k (fun kq v6 v33 w' => ∃ (x6_1 : List Int) (x33_1 : Int), v33 = .int .i64 x33_1 ∧ Aside0 (smf_Print.l0 kq x6_1 y107 (y107.length : Int) x33_1 a0_0 a0_1 l0_2 = some (r1, r2)) ∧ Aside0 (kq ≤ k) ∧ Aside0 (Kd.R (Kd.int .u8) 5 w' w.heap.size (fun _ => True) v6 x6_1 ∨ (MkRow w' w.heap.size v6 x6_1 ∧ x33_1 = 0)) ∧ Aside0 (Kd.R (Kd.int .i64) 3 w' w.heap.size (fun _ => True) (.slice Ao12 y107.length co12) y107) ∧ Aside0 (w'.heap[gb101]? = some (.cells #[.int .i64 a0_0, .int .i64 a0_1, (.slice A0_2 l0_2.length c0_2)] 24 (0, 0))) ∧ Aside0 (Below w.heap.size w w'))
  case atStart => exact ⟨(y104), (0), qq8, H', ⟨Nat.le_refl _⟩, ⟨.inr ⟨(by repeat (first | exact HO106.out | refine MkRow.alloc ?_ _ | refine MkRow.drew ?_)), rfl⟩⟩, ⟨qR HO109.out⟩, ⟨bq BK101.out⟩, ⟨qS1 GE101 HB.out⟩⟩
  case round =>
    clear H'
    try clear c1
    try clear c2
    try clear p2
    try clear c3
    try clear c3b0
    try clear c3b1
    try clear hcz5_0
    try clear hcz5_1
    try clear hcz5_2
    try clear hcz9_0
    try clear hcz9_1
    try clear hcz9_2
    try clear hfz5_0
    try clear hfz5_1
    try clear hfz5_2
    try clear hfz9_0
    try clear hfz9_1
    try clear hfz9_2
    obtain ⟨x6_1, x33_1, rfl, HA, HK1, HO_6, HO_31, BK101, HB⟩ := hrel
    cases gk with
    | zero => exact absurd HA.out (by simp [smf_Print.l0])
    | succ k1 =>
      have H := HA.out
      clear HA
      simp only [smf_Print.l0] at H
      by_cases c13 : x33_1 < (y107.length : Int)
      · rw [if_pos c13] at H
        have c13b0 : decide (x33_1 < (y107.length : Int)) = true := decide_eq_true c13
        clear c13
        by_cases c14 : 0 ≤ x33_1
        rotate_left
        · rw [if_neg c14] at H
          exact absurd H (by simp)
        rw [if_pos c14] at H
        have c14b0 : decide (0 ≤ x33_1) = true := decide_eq_true c14
        clear c14
        by_cases c15 : x33_1 < (y107.length : Int)
        rotate_left
        · rw [if_neg c15] at H
          exact absurd H (by simp)
        rw [if_pos c15] at H
        have c15b0 : decide (x33_1 < (y107.length : Int)) = true := decide_eq_true c15
        clear c15
        obtain ⟨y111, hy111⟩ : ∃ y_ : List Int, y_ = (([((rd y107 x33_1) / 256) % 256, (rd y107 x33_1) % 256] : List Int)) := ⟨_, rfl⟩
        replace H : (if x6_1.length + y111.length < 140737488355328 then (smf_Print.l0 k1 (x6_1 ++ y111) y107 (y107.length : Int) (wrap64 (x33_1 + 1)) a0_0 a0_1 l0_2) else (none)) = some (r1, r2) := by first | (rw [hy111]; with_reducible exact H) | (have H2_ := (Option.bind_some _ _).symm.trans H; rw [hy111]; with_reducible exact H2_) | (have H2_ := (Option.bind_some _ _).symm.trans H; with_reducible exact H2_) | with_reducible exact H | (rw [hy111]; exact H) | exact H
        have Ny111 := Aside0.mk hy111
        clear hy111
        by_cases c16 : x6_1.length + y111.length < 140737488355328
        rotate_left
        · rw [if_neg c16] at H
          exact absurd H (by simp)
        rw [if_pos c16] at H
        have LMc16 := Aside0.mk c16
        clear c16
        obtain ⟨y114, hy114⟩ : ∃ y_ : List Int, y_ = (x6_1 ++ y111) := ⟨_, rfl⟩
        replace H : (smf_Print.l0 k1 y114 y107 (y107.length : Int) (wrap64 (x33_1 + 1)) a0_0 a0_1 l0_2) = some (r1, r2) := by first | (rw [hy114]; with_reducible exact H) | (have H2_ := (Option.bind_some _ _).symm.trans H; rw [hy114]; with_reducible exact H2_) | (have H2_ := (Option.bind_some _ _).symm.trans H; with_reducible exact H2_) | with_reducible exact H | (rw [hy114]; exact H) | exact H
        have Ny114 := Aside0.mk hy114
        clear hy114
        have H' := Aside0.mk H
        clear H
        have p110 : 0 ≤ (x33_1 : Int) := of_decide_eq_true qq4
        have q110 : x33_1 < (y107.length : Int) := of_decide_eq_true qq4
        obtain ⟨ad110, e110, hx110_0⟩ := Kd.at_int (Kd.R_reads' HO_31.out).2.2 x33_1 p110 q110
        cases e110
        replace p110 := eq_true p110
        replace q110 := eq_true q110
        rcases HO_6.out with hO6 | ⟨hM6, h33⟩
        · clear HO_6
          have HO_6 := Aside0.mk hO6
          clear hO6
          go_wp2_with (first | ((with_reducible refine gate_dst (N := 43) rfl ?_); refine Kd.R_lit (Kd.int .u8) _ 5 ?hg (N := 43) ?hd (xs := ([((rd y107 x33_1) / 256) % 256, (rd y107 x33_1) % 256] : List Int)) (inner := [.int .u8 (((rd y107 x33_1) / 256) % 256), .int .u8 ((rd y107 x33_1) % 256)]) (ok := fun _ => True) (okp := fun _ => True) ?hr ?hp (fun _ hk => hk) trivial (Below.refl _ _) (Nat.le_refl _) (by simp) ?_; (case hd => rfl); (case hg => rfl); (case hr => exact qq6); (case hp => exact qq19); intro v112 w17 ho18 hb hg_ hnew_; clear hg_ hnew_; (first | rw [← Ny111.out] at ho18 | (simp only [Int.reduceToNat] at ho18; rw [← Ny111.out] at ho18)); replace HO_31 := Aside0.mk (Kd.R_below (qR HO_31.out) hb); have HO113 := Aside0.mk (Kd.R_lower (Kd.R_new' ho18 (Kd.R_lt (qR HO_6.out))) (below_size (qS1 GE101 HB.out))); replace HO_6 := Aside0.mk (Kd.R_elder' (qR HO_6.out) (Kd.R_base ho18) hb); replace BK101 := Aside0.mk (blk_below (bq BK101.out) hb); replace HB := Aside0.mk (below_step (qS1 GE101 HB.out) hb); clear hb ho18; obtain ⟨Ao20, co20, eo20⟩ := Kd.R_slice HO113.out; subst eo20) | ((with_reducible refine gate_builtin (b := .append) (xs := #[.tmp 37, .tmp 43]) rfl ?_); at_builtin; refine Kd.R_append_rows (Kd.int .u8) (w0 := w) w.heap.size rfl (.tmp 37) (.tmp 43) 39 5 (.int .u8 0) 1 rfl Try.underlying39 info5 rfl (by decide) (by omega) u6 x6_1 y111 _ _ _ (fun k_ => some k_ ≠ (.slice Ao20 y111.length co20 : Value).ownBlock) (fun _ => False) rfl rfl ?aO ?aR (fun _ _ h => h) (fun _ h => h.elim) ?aF ?aB ?aS ?aL ?_; (case aR => repeat (first | exact (Kd.R_reads' HO113.out).2.2 | (with_reducible refine Kd.C_alloc ?_ _) | (with_reducible refine Kd.C_drewN ?_ _) | (with_reducible refine Kd.C_drew ?_))); (case aB => exact (qS1 GE101 HB.out)); (case aF => exact (fun k_ hk => Kd.fresh' (Kd.R_lt (qR HO113.out)) k_ hk)); (case aO => exact (by (with_reducible repeat (first | apply Kd.R_alloc | apply Kd.R_drewN | apply Kd.R_drew)); exact Kd.R_mono HO_6.out (fun _ hk => hk.2))); (case aS => exact (below_size (qS1 GE101 HB.out))); (case aL => have := LMc16.out; omega); intro v115 w19 ho hb hg hat; rw [← Ny114.out] at ho; replace HO_31 := Aside0.mk (Kd.R_over' (qR HO_31.out) (Kd.R_typed (qR HO_6.out)) (by decide) hg); replace BK101 := Aside0.mk (blk_grown (bq BK101.out) hg (Kd.R_ne HO_6.out BK101.out (by decide))); replace HO113 := Aside0.mk (Kd.R_after (ok := (fun _ => True)) (qR HO113.out) hg hat); replace HB := Aside0.mk (hb); have HO116 := Aside0.mk (ho); clear HO_6; clear ho hb hg hat))
          go_roundg k1
          case measure => have := HK1.out; omega
          case rel => exact ⟨(y114), (wrap64 (x33_1 + 1)), qq8, H', ⟨qq18⟩, ⟨.inl qq1v⟩, ⟨qR HO_31.out⟩, ⟨bq BK101.out⟩, ⟨qS1 GE101 HB.out⟩⟩
        clear HO_6 h33
        have HO_6 := Aside0.mk hM6
        clear hM6
        go_wp2_with (first | ((with_reducible refine gate_dst (N := 43) rfl ?_); refine Kd.R_lit (Kd.int .u8) _ 5 ?hg (N := 43) ?hd (xs := ([((rd y107 x33_1) / 256) % 256, (rd y107 x33_1) % 256] : List Int)) (inner := [.int .u8 (((rd y107 x33_1) / 256) % 256), .int .u8 ((rd y107 x33_1) % 256)]) (ok := fun _ => True) (okp := fun _ => True) ?hr ?hp (fun _ hk => hk) trivial (Below.refl _ _) (Nat.le_refl _) (by simp) ?_; (case hd => rfl); (case hg => rfl); (case hr => exact qq6); (case hp => exact qq19); intro v112 w17 ho18 hb hg_ hnew_; clear hg_ hnew_; (first | rw [← Ny111.out] at ho18 | (simp only [Int.reduceToNat] at ho18; rw [← Ny111.out] at ho18)); replace HO_6 := Aside0.mk (MkRow.below (by repeat (first | exact HO_6.out | refine MkRow.alloc ?_ _ | refine MkRow.drew ?_)) hb); replace HO_31 := Aside0.mk (Kd.R_below (qR HO_31.out) hb); have HO113 := Aside0.mk (Kd.R_lower ho18 (below_size (qS1 GE101 HB.out))); replace BK101 := Aside0.mk (blk_below (bq BK101.out) hb); replace HB := Aside0.mk (below_step (qS1 GE101 HB.out) hb); clear hb ho18; obtain ⟨Ao20, co20, eo20⟩ := Kd.R_slice HO113.out; subst eo20) | ((with_reducible refine gate_builtin (b := .append) (xs := #[.tmp 37, .tmp 43]) rfl ?_); at_builtin; refine mark_append (w0 := w) w.heap.size rfl (.tmp 37) (.tmp 43) 39 rfl Try.underlying39 info5 u6 x6_1 y111 _ _ _ w.heap.size (fun _ => True) rfl rfl ?aP ?aO ?aY ?aB ?aS ?aL ?_; (case aP => rw [Ny111.out]; simp); (case aO => exact (by repeat (first | exact HO_6.out | refine MkRow.alloc ?_ _ | refine MkRow.drew ?_))); (case aY => exact (qR HO113.out)); (case aB => exact (qS1 GE101 HB.out)); (case aS => exact (below_size (qS1 GE101 HB.out))); (case aL => have := LMc16.out; omega); intro v115 w19 ho hb hg hat; rw [← Ny114.out] at ho; have n0_ := Aside0.mk (Kd.R_grown (qR HO_31.out) hg (fun _ _ => by simp)); have n1_ := Aside0.mk (blk_grown (bq BK101.out) hg (by simp)); have n3_ := Aside0.mk (hb); have n4_ := Aside0.mk (ho); clear HO_31; clear BK101; clear HO113; clear HB; clear HO_6; have HO_31 := n0_; have BK101 := n1_; have HB := n3_; have HO116 := n4_; clear n0_ n1_ n3_ n4_; clear ho hb hg hat))
        go_roundg k1
        case measure => have := HK1.out; omega
        case rel => exact ⟨(y114), (wrap64 (x33_1 + 1)), qq8, H', ⟨qq18⟩, ⟨.inl qq1v⟩, ⟨qR HO_31.out⟩, ⟨bq BK101.out⟩, ⟨qS1 GE101 HB.out⟩⟩
      rw [if_neg c13] at H
      have hO6 := HO_6.out.resolve_right (fun h_ => c13 (by rw [h_.2, Ny107.out]; simp))
      clear HO_6
      have HO_6 := Aside0.mk hO6
      clear hO6
      have c13b0 : decide (x33_1 < (y107.length : Int)) = false := decide_eq_false c13
      clear c13
      have H' := Aside0.mk H
      clear H
      obtain ⟨hcz21_0, hcz21_1, hcz21_2, hfz21_0, hfz21_1, hfz21_2⟩ := blk3 BK101.out
      go_wp2
      go_loopg [6, 49] k1 (fun kq v6 v49 w' => ∃ (x6_2 : List Int) (x49_2 : Int), v49 = .int .i64 x49_2 ∧ Aside0 (smf_Print.l1 kq x6_2 l0_2 (l0_2.length : Int) x49_2 = some (r1, r2)) ∧ Aside0 (kq ≤ k1) ∧ Aside0 (Kd.R (Kd.int .u8) 5 w' w.heap.size (fun _ => True) v6 x6_2) ∧ Aside0 (w'.heap[gb101]? = some (.cells #[.int .i64 a0_0, .int .i64 a0_1, (.slice A0_2 l0_2.length c0_2)] 24 (0, 0))) ∧ Aside0 (Below w.heap.size w w'))
      case atStart => exact ⟨(x6_1), (0), qq8, H', ⟨Nat.le_refl _⟩, ⟨qR HO_6.out⟩, ⟨bq BK101.out⟩, ⟨qS1 GE101 HB.out⟩⟩
      case round =>
        clear H'
        try clear c1
        try clear p1
        try clear q1
        try clear hx1
        try clear c2
        try clear p2
        try clear c3
        try clear c3b0
        try clear c3b1
        try clear p6
        try clear p11
        try clear q11
        try clear hx11
        try clear c13
        try clear c13b0
        try clear c14
        try clear c14b0
        try clear c15
        try clear c15b0
        try clear c16
        try clear hcz21_0
        try clear hcz21_1
        try clear hcz21_2
        try clear hcz5_0
        try clear hcz5_1
        try clear hcz5_2
        try clear hcz9_0
        try clear hcz9_1
        try clear hcz9_2
        try clear hfz21_0
        try clear hfz21_1
        try clear hfz21_2
        try clear hfz5_0
        try clear hfz5_1
        try clear hfz5_2
        try clear hfz9_0
        try clear hfz9_1
        try clear hfz9_2
        try clear hx110_0
        try clear p110
        try clear p2
        try clear q110
        obtain ⟨x6_2, x49_2, rfl, HA, HK2, HO_6, BK101, HB⟩ := hrel
        cases gk with
        | zero => exact absurd HA.out (by simp [smf_Print.l1])
        | succ k2 =>
          have H := HA.out
          clear HA
          simp only [smf_Print.l1] at H
          by_cases c22 : x49_2 < (l0_2.length : Int)
          rotate_left
          · rw [if_neg c22] at H
            have c22b0 : decide (x49_2 < (l0_2.length : Int)) = false := decide_eq_false c22
            clear c22
            by_cases c36 : (x6_2.length : Int) > 100000
            · rw [if_pos c36] at H
              have c36b0 : decide (100000 < (x6_2.length : Int)) = true := decide_eq_true c36
              have c36b1 : decide (100000 < x6_2.length) = true := decide_eq_true (by omega)
              clear c36
              simp only [Option.some.injEq, Prod.mk.injEq] at H
              obtain ⟨rfl, rfl⟩ := H
              obtain ⟨Ao37, co37, eo37⟩ := Kd.R_slice HO_6.out
              subst eo37
              go_wp2
              go_ret2
              exact ⟨qq5, qS1 GE101 HB.out⟩
            rw [if_neg c36] at H
            have c36b0 : decide (100000 < (x6_2.length : Int)) = false := decide_eq_false c36
            have c36b1 : decide (100000 < x6_2.length) = false := decide_eq_false (by omega)
            clear c36
            simp only [Option.some.injEq, Prod.mk.injEq] at H
            obtain ⟨rfl, rfl⟩ := H
            obtain ⟨Ao38, co38, eo38⟩ := Kd.R_slice HO_6.out
            subst eo38
            have hcv39 := own_string (P := Try.prog) Try.underlying39 Try.underlying5 Try.underlying9 (Kd.own_of_R HO_6.out)
            go_wp2
            go_ret2
            exact ⟨qq5, qS1 GE101 HB.out⟩
          rw [if_pos c22] at H
          have c22b0 : decide (x49_2 < (l0_2.length : Int)) = true := decide_eq_true c22
          clear c22
          by_cases c23 : 0 ≤ x49_2
          rotate_left
          · rw [if_neg c23] at H
            exact absurd H (by simp)
          rw [if_pos c23] at H
          have c23b0 : decide (0 ≤ x49_2) = true := decide_eq_true c23
          clear c23
          by_cases c24 : x49_2 < (l0_2.length : Int)
          rotate_left
          · rw [if_neg c24] at H
            exact absurd H (by simp)
          rw [if_pos c24] at H
          have c24b0 : decide (x49_2 < (l0_2.length : Int)) = true := decide_eq_true c24
          clear c24
          replace H := Option.bind_eq_some_iff.mp H
          obtain ⟨⟨t118, t119⟩, A250, H⟩ := H
          try dsimp -simprocs only at H
          have A25 := Aside0.mk A250
          clear A250
          by_cases c26 : x6_2.length + 4 < 140737488355328
          rotate_left
          · rw [if_neg c26] at H
            exact absurd H (by simp)
          rw [if_pos c26] at H
          have LMc26 := Aside0.mk c26
          clear c26
          obtain ⟨y120, hy120⟩ : ∃ y_ : List Int, y_ = (x6_2 ++ bytesOf (⟨#[77, 84, 114, 107]⟩ : ByteArray)) := ⟨_, rfl⟩
          replace H : ((some (([((t118.size : Int) / 16777216) % 256, ((t118.size : Int) / 65536) % 256, ((t118.size : Int) / 256) % 256, ((t118.size : Int)) % 256] : List Int) : List Int)).bind fun y123 => (if y120.length + y123.length < 140737488355328 then ((some (y120 ++ y123 : List Int)).bind fun y126 => (if y126.length + t118.size < 140737488355328 then (smf_Print.l1 k2 (y126 ++ bytesOf t118) l0_2 (l0_2.length : Int) (wrap64 (x49_2 + 1))) else (none))) else (none))) = some (r1, r2) := by first | (rw [hy120]; with_reducible exact H) | (have H2_ := (Option.bind_some _ _).symm.trans H; rw [hy120]; with_reducible exact H2_) | (have H2_ := (Option.bind_some _ _).symm.trans H; with_reducible exact H2_) | with_reducible exact H | (rw [hy120]; exact H) | exact H
          have Ny120 := Aside0.mk hy120
          clear hy120
          obtain ⟨y123, hy123⟩ : ∃ y_ : List Int, y_ = (([((t118.size : Int) / 16777216) % 256, ((t118.size : Int) / 65536) % 256, ((t118.size : Int) / 256) % 256, ((t118.size : Int)) % 256] : List Int)) := ⟨_, rfl⟩
          replace H : (if y120.length + y123.length < 140737488355328 then ((some (y120 ++ y123 : List Int)).bind fun y126 => (if y126.length + t118.size < 140737488355328 then (smf_Print.l1 k2 (y126 ++ bytesOf t118) l0_2 (l0_2.length : Int) (wrap64 (x49_2 + 1))) else (none))) else (none)) = some (r1, r2) := by first | (rw [hy123]; with_reducible exact H) | (have H2_ := (Option.bind_some _ _).symm.trans H; rw [hy123]; with_reducible exact H2_) | (have H2_ := (Option.bind_some _ _).symm.trans H; with_reducible exact H2_) | with_reducible exact H | (rw [hy123]; exact H) | exact H
          have Ny123 := Aside0.mk hy123
          clear hy123
          by_cases c27 : y120.length + y123.length < 140737488355328
          rotate_left
          · rw [if_neg c27] at H
            exact absurd H (by simp)
          rw [if_pos c27] at H
          have LMc27 := Aside0.mk c27
          clear c27
          obtain ⟨y126, hy126⟩ : ∃ y_ : List Int, y_ = (y120 ++ y123) := ⟨_, rfl⟩
          replace H : (if y126.length + t118.size < 140737488355328 then (smf_Print.l1 k2 (y126 ++ bytesOf t118) l0_2 (l0_2.length : Int) (wrap64 (x49_2 + 1))) else (none)) = some (r1, r2) := by first | (rw [hy126]; with_reducible exact H) | (have H2_ := (Option.bind_some _ _).symm.trans H; rw [hy126]; with_reducible exact H2_) | (have H2_ := (Option.bind_some _ _).symm.trans H; with_reducible exact H2_) | with_reducible exact H | (rw [hy126]; exact H) | exact H
          have Ny126 := Aside0.mk hy126
          clear hy126
          by_cases c28 : y126.length + t118.size < 140737488355328
          rotate_left
          · rw [if_neg c28] at H
            exact absurd H (by simp)
          rw [if_pos c28] at H
          have LMc28 := Aside0.mk c28
          clear c28
          obtain ⟨y129, hy129⟩ : ∃ y_ : List Int, y_ = (y126 ++ bytesOf t118) := ⟨_, rfl⟩
          replace H : (smf_Print.l1 k2 y129 l0_2 (l0_2.length : Int) (wrap64 (x49_2 + 1))) = some (r1, r2) := by first | (rw [hy129]; with_reducible exact H) | (have H2_ := (Option.bind_some _ _).symm.trans H; rw [hy129]; with_reducible exact H2_) | (have H2_ := (Option.bind_some _ _).symm.trans H; with_reducible exact H2_) | with_reducible exact H | (rw [hy129]; exact H) | exact H
          have Ny129 := Aside0.mk hy129
          clear hy129
          have H' := Aside0.mk H
          clear H
          have p117 : 0 ≤ (x49_2 : Int) := of_decide_eq_true qq4
          have q117 : x49_2 < (l0_2.length : Int) := of_decide_eq_true qq4
          obtain ⟨ad117, A117_0, c117_0, e117, hx117_0, hl117_0, hi117_0⟩ := at_L3 HR0_2.out x49_2 p117 q117
          cases e117
          replace hx117_0 := (HB.out.cell (World.block_lt_of_cell? w _ hx117_0)).trans hx117_0
          have HR117_0 := Aside0.mk hi117_0
          have HC117_0 := Aside0.mk hl117_0
          clear hi117_0 hl117_0
          replace p117 := eq_true p117
          replace q117 := eq_true q117
          go_wp2_with (first | ((with_reducible refine gate_callee (f := 22) rfl ?_); refine goesL_ (some 55) rfl rfl Try.func22 (by kernel_rfl) rfl #[.slice A117_0 (rd_L3 l0_2 x49_2).length c117_0] rfl qq0 ?_; (with_reducible refine (wire_Encode.calls k2 _ _ (rd_L3 l0_2 x49_2) t118 t119 _ ?side1 ?side2 A25.out).mono ?_); (case side1 => repeat (first | exact (Kd.C_below HR117_0.out HB.out) | (with_reducible refine Kd.C_alloc ?_ _) | (with_reducible refine Kd.C_drewN ?_ _) | (with_reducible refine Kd.C_drew ?_))); (case side2 => exact HC117_0.out); rintro e w29 ⟨rfl, hb⟩; refine ⟨_, rfl, ?_⟩; replace HO_6 := Aside0.mk (Kd.R_below (qR HO_6.out) hb); replace BK101 := Aside0.mk (blk_below (bq BK101.out) hb); replace HB := Aside0.mk (below_step (qS1 GE101 HB.out) hb); (try clear hb); (try clear hb2); (try clear hk); (try clear hi)) | (at_builtin; refine print_append_str (w0 := w) w.heap.size rfl (.tmp 60) _ 39 9 5 rfl Try.underlying39 Try.underlying9 info5 u6 x6_2 (⟨#[77, 84, 114, 107]⟩ : ByteArray) rfl rfl ?aO ?aB ?aS ?aL ?_; (case aB => exact (qS1 GE101 HB.out)); (case aO => exact (Kd.own_of_R (qR HO_6.out))); (case aS => exact (below_size (qS1 GE101 HB.out))); (case aL => have := LMc26.out; have h4_ : (⟨#[77, 84, 114, 107]⟩ : ByteArray).size = 4 := rfl; omega); intro v121 w30 ho0 hb hg; have ho := Kd.R_of_own (h1 := fun _ => rfl) (ok := fun _ => True) ho0 (fun _ _ => trivial); clear ho0; have hat := True.intro; rw [← Ny120.out] at ho; change Kd.R (Kd.int .u8) 5 w30 w.heap.size (fun _ => True) v121 y120 at ho; replace BK101 := Aside0.mk (blk_grown (bq BK101.out) hg (Kd.R_ne HO_6.out BK101.out (by decide))); replace HB := Aside0.mk (hb); have HO122 := Aside0.mk (ho); clear HO_6; clear ho hb hg hat) | ((with_reducible refine gate_dst (N := 73) rfl ?_); refine Kd.R_lit (Kd.int .u8) _ 5 ?hg (N := 73) ?hd (xs := ([((t118.size : Int) / 16777216) % 256, ((t118.size : Int) / 65536) % 256, ((t118.size : Int) / 256) % 256, ((t118.size : Int)) % 256] : List Int)) (inner := [.int .u8 (((t118.size : Int) / 16777216) % 256), .int .u8 (((t118.size : Int) / 65536) % 256), .int .u8 (((t118.size : Int) / 256) % 256), .int .u8 (((t118.size : Int)) % 256)]) (ok := fun _ => True) (okp := fun _ => True) ?hr ?hp (fun _ hk => hk) trivial (Below.refl _ _) (Nat.le_refl _) (by simp) ?_; (case hd => rfl); (case hg => rfl); (case hr => exact qq6); (case hp => exact (Reps.one (show Kd.M (Kd.int .u8) _ _ _ (((t118.size : Int) / 16777216) % 256) [.int .u8 (((t118.size : Int) / 16777216) % 256)] from rfl) (Reps.one (show Kd.M (Kd.int .u8) _ _ _ (((t118.size : Int) / 65536) % 256) [.int .u8 (((t118.size : Int) / 65536) % 256)] from rfl) (Reps.one (show Kd.M (Kd.int .u8) _ _ _ (((t118.size : Int) / 256) % 256) [.int .u8 (((t118.size : Int) / 256) % 256)] from rfl) (Reps.one (show Kd.M (Kd.int .u8) _ _ _ (((t118.size : Int)) % 256) [.int .u8 (((t118.size : Int)) % 256)] from rfl) (Reps.none _ _)))))); intro v124 w31 ho32 hb hg_ hnew_; clear hg_ hnew_; (first | rw [← Ny123.out] at ho32 | (simp only [Int.reduceToNat] at ho32; rw [← Ny123.out] at ho32)); have HO125 := Aside0.mk (Kd.R_lower (Kd.R_new' ho32 (Kd.R_lt (qR HO122.out))) (below_size (qS1 GE101 HB.out))); replace HO122 := Aside0.mk (Kd.R_elder' (qR HO122.out) (Kd.R_base ho32) hb); replace BK101 := Aside0.mk (blk_below (bq BK101.out) hb); replace HB := Aside0.mk (below_step (qS1 GE101 HB.out) hb); clear hb ho32; obtain ⟨Ao34, co34, eo34⟩ := Kd.R_slice HO125.out; subst eo34) | ((with_reducible refine gate_builtin (b := .append) (xs := #[.tmp 61, .tmp 73]) rfl ?_); at_builtin; refine Kd.R_append_rows (Kd.int .u8) (w0 := w) w.heap.size rfl (.tmp 61) (.tmp 73) 39 5 (.int .u8 0) 1 rfl Try.underlying39 info5 rfl (by decide) (by omega) v121 y120 y123 _ _ _ (fun k_ => some k_ ≠ (.slice Ao34 y123.length co34 : Value).ownBlock) (fun _ => False) rfl rfl ?aO ?aR (fun _ _ h => h) (fun _ h => h.elim) ?aF ?aB ?aS ?aL ?_; (case aR => repeat (first | exact (Kd.R_reads' HO125.out).2.2 | (with_reducible refine Kd.C_alloc ?_ _) | (with_reducible refine Kd.C_drewN ?_ _) | (with_reducible refine Kd.C_drew ?_))); (case aB => exact (qS1 GE101 HB.out)); (case aF => exact (fun k_ hk => Kd.fresh' (Kd.R_lt (qR HO125.out)) k_ hk)); (case aO => exact (by (with_reducible repeat (first | apply Kd.R_alloc | apply Kd.R_drewN | apply Kd.R_drew)); exact Kd.R_mono HO122.out (fun _ hk => hk.2))); (case aS => exact (below_size (qS1 GE101 HB.out))); (case aL => have := LMc27.out; omega); intro v127 w33 ho hb hg hat; rw [← Ny126.out] at ho; replace BK101 := Aside0.mk (blk_grown (bq BK101.out) hg (Kd.R_ne HO122.out BK101.out (by decide))); replace HO125 := Aside0.mk (Kd.R_after (ok := (fun _ => True)) (qR HO125.out) hg hat); replace HB := Aside0.mk (hb); have HO128 := Aside0.mk (ho); clear HO122; clear ho hb hg hat) | (at_builtin; refine print_append_str (w0 := w) w.heap.size rfl (.tmp 75) _ 39 9 5 rfl Try.underlying39 Try.underlying9 info5 v127 y126 t118 rfl rfl ?aO ?aB ?aS ?aL ?_; (case aB => exact (qS1 GE101 HB.out)); (case aO => exact (Kd.own_of_R (by (with_reducible repeat (first | apply Kd.R_alloc | apply Kd.R_drewN | apply Kd.R_drew)); exact Kd.R_mono HO128.out (fun _ hk => trivial)))); (case aS => exact (below_size (qS1 GE101 HB.out))); (case aL => have := LMc28.out; omega); intro v130 w35 ho0 hb hg; have ho := Kd.R_of_own (h1 := fun _ => rfl) (ok := fun _ => True) ho0 (fun _ _ => trivial); clear ho0; have hat := True.intro; rw [← Ny129.out] at ho; change Kd.R (Kd.int .u8) 5 w35 w.heap.size (fun _ => True) v130 y129 at ho; replace BK101 := Aside0.mk (blk_grown (bq BK101.out) hg (Kd.R_ne HO128.out BK101.out (by decide))); replace HB := Aside0.mk (hb); have HO131 := Aside0.mk (ho); clear HO128; clear ho hb hg hat))
          go_roundg k2
          case measure => have := HK1.out; have := HK2.out; omega
          case rel => exact ⟨(y129), (wrap64 (x49_2 + 1)), qq8, H', ⟨by have := HK1.out; have := HK2.out; omega⟩, ⟨qR HO131.out⟩, ⟨bq BK101.out⟩, ⟨qS1 GE101 HB.out⟩⟩
end Go.Proofs.Ytdmnknhlibaaoaa.M
namespace Go.Proofs.Ytdmnknhlibaaoaa.Z
open Go.RowKit Go.Proofs.YtdmnknhlibaaoaaW.PrintWords Go.Proofs.YtdmnknhlibaaoaaW.PrintLast Go.Proofs.Ytdmnknhlibaaoaa.M
set_option linter.unusedVariables false
def two (n : Int) : List Int := [n / 256 % 256, n % 256]
def four (n : Int) : List Int := [n / 16777216 % 256, n / 65536 % 256, n / 256 % 256, n % 256]
def nameL : List Int := [77, 84, 104, 100, 0, 0, 0, 6]
def trkL : List Int := [77, 84, 114, 107]
def trkB (l : List Msg) : List Int := trkL ++ (four (enc 0 l).length ++ enc 0 l)
def trksB : List (List Msg) → List Int
  | [] => []
  | l :: r => trkB l ++ trksB r
def headB (f d : Int) (n : Nat) : List Int := nameL ++ (two f ++ (two n ++ two d))
def fileB (f d : Int) (ts : List (List Msg)) : List Int := headB f d ts.length ++ trksB ts
def totT : List (List Msg) → Nat
  | [] => 0
  | l :: r => tot l + 8 + totT r
theorem totT_mem : ∀ {ts : List (List Msg)} {l : List Msg}, l ∈ ts → tot l ≤ totT ts
  | l :: r, x, h => by
    rw [totT]
    rcases List.mem_cons.1 h with rfl | h
    · omega
    · have := totT_mem h; omega
theorem trkB_len (l : List Msg) : (trkB l).length = (enc 0 l).length + 8 := by
  unfold trkB trkL four
  simp only [List.length_append, List.length_cons, List.length_nil]
  omega
theorem trksB_len : ∀ ts : List (List Msg), (trksB ts).length ≤ totT ts
  | [] => Nat.le_refl _
  | l :: r => by
    rw [trksB, totT, List.length_append, trkB_len]
    have := enc_tot l 0
    have := trksB_len r
    omega
theorem headB_len (f d : Int) (n : Nat) : (headB f d n).length = 14 := rfl
theorem four_bytes (n : Int) : Bytes (four n) := by
  unfold four
  exact .cons (by omega) (by omega) (.cons (by omega) (by omega) (.cons (by omega) (by omega) (.cons (by omega) (by omega) .nil)))
theorem two_bytes (n : Int) : Bytes (two n) := by
  unfold two
  exact .cons (by omega) (by omega) (.cons (by omega) (by omega) .nil)
theorem trkL_bytes : Bytes trkL := by
  unfold trkL
  intro x hx
  simp only [List.mem_cons, List.not_mem_nil, or_false] at hx
  omega
theorem nameL_bytes : Bytes nameL := by
  unfold nameL
  intro x hx
  simp only [List.mem_cons, List.not_mem_nil, or_false] at hx
  omega
theorem trkB_bytes {l : List Msg} (h : Rights l) : Bytes (trkB l) := trkL_bytes.append ((four_bytes _).append (enc_bytes h))
theorem trksB_bytes : ∀ {ts : List (List Msg)}, (∀ l ∈ ts, Rights l) → Bytes (trksB ts)
  | [], _ => .nil
  | l :: r, h => (trkB_bytes (h l (by simp))).append (trksB_bytes (fun x hx => h x (by simp [hx])))
theorem headB_bytes (f d : Int) (n : Nat) : Bytes (headB f d n) := nameL_bytes.append ((two_bytes _).append ((two_bytes _).append (two_bytes _)))
theorem fileB_bytes {f d : Int} {ts : List (List Msg)} (h : ∀ l ∈ ts, Rights l) : Bytes (fileB f d ts) := (headB_bytes _ _ _).append (trksB_bytes h)
def fin (o : List Int) : ByteArray × Int := if (o.length : Int) > 100000 then (⟨#[]⟩, 160) else (strOfNums o, 0)
theorem print_l1 (ts : List (List Msg)) (hl : ts.length ≤ 1000000000) (hr : ∀ l ∈ ts, Rights l ∧ tot l ≤ 1000000000) : ∀ (j i : Nat) (out : List Int), i + j = ts.length → out.length + totT (ts.drop i) ≤ 2000000000 →
    Ev (fun k => smf_Print.l1 k out ts (ts.length : Int) (i : Int)) (fin (out ++ trksB (ts.drop i)))
  | 0, i, out, hj, ho => by
    refine Ev.step (fun k => by rw [smf_Print.l1]) ?_
    refine Ev.no (by omega) ?_
    rw [List.drop_eq_nil_of_le (by omega), trksB, List.append_nil]
    unfold fin
    by_cases c : (out.length : Int) > 100000
    · exact Ev.yes c (Ev.ok (Ev.now _) (by rw [if_pos c]))
    · exact Ev.no c (Ev.ok (Ev.now _) (by rw [if_neg c]))
  | j + 1, i, out, hj, ho => by
    have hm := rdL_mem ts i (by omega)
    have hd := rdL_drop ts i (by omega)
    rw [hd, totT] at ho
    generalize hlt : rd_L3 ts (i : Int) = l at *
    obtain ⟨h1, h2⟩ := hr l hm
    have hen := enc_tot l 0
    have hsz : (strOfNums (enc 0 l)).size = (enc 0 l).length := str_size _
    have hb : bytesOf (strOfNums (enc 0 l)) = enc 0 l := bytesOf_str (enc_bytes h1)
    have e1 : wrap64 ((i : Int) + 1) = ((i + 1 : Nat) : Int) := by rw [w64 (by omega) (by omega)]; omega
    refine Ev.step (fun k => by rw [smf_Print.l1]) ?_
    refine Ev.yes (by omega) (Ev.yes (by omega) (Ev.yes (by omega) ?_))
    rw [hlt]
    refine Ev.bind (encode_ok h1 h2) ?_
    dsimp only
    refine Ev.yes (by omega) (Ev.bind (Ev.now _) (Ev.bind (Ev.now _) ?_))
    have hy : bytesOf (⟨#[77, 84, 114, 107]⟩ : ByteArray) = trkL := rfl
    rw [hy, hsz]
    have hlen : trkL.length = 4 := rfl
    refine Ev.yes (by rw [List.length_append, hlen]; simp only [List.length_cons, List.length_nil]; omega) (Ev.bind (Ev.now _) (Ev.yes ?_ ?_))
    · rw [List.length_append, List.length_append, hlen]; simp only [List.length_cons, List.length_nil]; omega
    · rw [hb, e1, hd, trksB]
      have ih := print_l1 ts hl hr j (i + 1) (out ++ trkB l) (by omega) (by rw [List.length_append, trkB_len]; omega)
      have e2 : out ++ trkL ++ [((enc 0 l).length : Int) / 16777216 % 256, ((enc 0 l).length : Int) / 65536 % 256, ((enc 0 l).length : Int) / 256 % 256, ((enc 0 l).length : Int) % 256] ++ enc 0 l = out ++ trkB l := by
        unfold trkB four
        simp only [List.append_assoc]
      rw [e2]
      rw [List.append_assoc] at ih
      exact ih
theorem print_ev (f d : Int) (ts : List (List Msg)) (hs : Small ts) (ht : totT ts ≤ 1000000000) :
    Ev (fun k => smf_Print.f k f d ts) (if (checkM f d ts).2 = 0 then fin (fileB f d ts) else (⟨#[]⟩, (checkM f d ts).2)) := by
  refine Ev.bind (check_ev f d ts hs) ?_
  by_cases c : (checkM f d ts).2 = 0
  · rw [if_pos c]
    refine Ev.yes c (Ev.bind (Ev.now _) ?_)
    have hr : ∀ l ∈ ts, Rights l ∧ tot l ≤ 1000000000 := by
      intro l hl
      have h2 : (checkL ts 0).2 = 0 := by
        unfold checkM at c
        split at c
        · cases c
        · exact c
      exact ⟨(checkL_e h2 l hl).1, Nat.le_trans (totT_mem hl) ht⟩
    have hlen : ([f, (ts.length : Int), d] : List Int).length = 3 := rfl
    rw [hlen]
    refine Ev.step (fun k => by rw [smf_Print.l0]) ?_
    refine Ev.yes (by decide) (Ev.yes (by decide) (Ev.yes (by simp) (Ev.bind (Ev.now _) (Ev.yes (by simp) ?_))))
    rw [show wrap64 ((0 : Int) + 1) = 1 from by rw [w64 (by decide) (by decide)]; rfl]
    refine Ev.step (fun k => by rw [smf_Print.l0]) ?_
    refine Ev.yes (by decide) (Ev.yes (by decide) (Ev.yes (by simp) (Ev.bind (Ev.now _) (Ev.yes (by simp) ?_))))
    rw [show wrap64 ((1 : Int) + 1) = 2 from by rw [w64 (by decide) (by decide)]; rfl]
    refine Ev.step (fun k => by rw [smf_Print.l0]) ?_
    refine Ev.yes (by decide) (Ev.yes (by decide) (Ev.yes (by simp) (Ev.bind (Ev.now _) (Ev.yes (by simp) ?_))))
    rw [show wrap64 ((2 : Int) + 1) = 3 from by rw [w64 (by decide) (by decide)]; rfl]
    refine Ev.step (fun k => by rw [smf_Print.l0]) ?_
    refine Ev.no (by decide) ?_
    have h := print_l1 ts hs.1 hr ts.length 0 (headB f d ts.length) (by omega) (by rw [headB_len, List.drop_zero]; omega)
    rw [List.drop_zero] at h
    exact h
  · rw [if_neg c]
    exact Ev.no c (Ev.now _)
end Go.Proofs.Ytdmnknhlibaaoaa.Z
namespace Go.Proofs.Ytdmnknhlibaaoaa.Z
open Go.RowKit Go.Proofs.YtdmnknhlibaaoaaW.PrintWords Go.Proofs.Ytdmnknhlibaaoaa.M
def I64 (x : Int) : Prop := -9223372036854775808 ≤ x ∧ x ≤ 9223372036854775807
def Raw (m : Msg) : Prop := I64 m.f0 ∧ I64 m.f1 ∧ I64 m.f2 ∧ I64 m.f3 ∧ I64 m.f4
def Raws (ts : List (List Msg)) : Prop := ∀ l ∈ ts, ∀ m ∈ l, Raw m
def GM (m : Msg) : Prop := Right m ∧ isEnd m = false ∧ m.f5.size ≤ 200 ∧ m.f0 ≠ 5000
def endM (d : Int) : Msg := ⟨d, 16, 0, 47, 0, ⟨#[]⟩⟩
def GT (l : List Msg) : Prop := ∃ a : List Msg, l = a ++ [endM (a.length : Int)] ∧ a.length ≤ 12 ∧ ∀ m ∈ a, GM m
def GF (f d : Int) (ts : List (List Msg)) : Prop := (f = 0 ∨ f = 1) ∧ 1 ≤ d ∧ d ≤ 32767 ∧ 1 ≤ ts.length ∧ ts.length ≤ 5 ∧ (f = 0 → ts.length = 1) ∧ ∀ l ∈ ts, GT l
end Go.Proofs.Ytdmnknhlibaaoaa.Z
namespace Go.Proofs.Ytdmnknhlibaaoaa.M
open Go.RowKit Go.Proofs.YtdmnknhlibaaoaaW.PrintWords Go.Proofs.YtdmnknhlibaaoaaW.PrintLast Go.Proofs.YtdmnknhlibaaoaaW.PrintMore
attribute [local go_sem] max2_int min2_int max_two min_two max_three min_three max_four min_four
set_option linter.unusedVariables false
set_option linter.unusedSimpArgs false
def partitalaw16_End.f (a0 : Int) : Option (Int × Int × Int × Int × Int × ByteArray) := some (a0, 16, 0, 47, 0, (⟨#[]⟩ : ByteArray))
set_option maxHeartbeats 8000000 in
set_option maxRecDepth 100000 in
theorem partitalaw16_End.calls (a0 : Int) (r1 : Int) (r2 : Int) (r3 : Int) (r4 : Int) (r5 : Int) (r6 : ByteArray) (w : World) (h : partitalaw16_End.f a0 = some (r1, r2, r3, r4, r5, r6)) :
    Calls Try.prog 13 #[.int .i64 a0] w fun e w' => e = .returned (.agg #[.int .i64 r1, .int .i64 r2, .int .i64 r3, .int .i64 r4, .int .i64 r5, .string r6]) ∧ Below w.heap.size w w' := by
  have hu28 := Try.underlying28
  have HB := Aside0.mk (Below.refl w.heap.size w)
  have H := h
  unfold partitalaw16_End.f at H
  clear h
  simp only [Option.some.injEq, Prod.mk.injEq] at H
  obtain ⟨rfl, rfl, rfl, rfl, rfl, rfl⟩ := H
  go_enter Try.func13, Try.ntmps13
  go_wp2_with (first | ((with_reducible refine gate_dst (N := 2) rfl ?_); refine box_event ?hg (N := 2) ?hd (cs := #[.int .i64 0, .int .i64 0, .int .i64 0, .int .i64 0, .int .i64 0, .string (⟨#[]⟩ : ByteArray)]) (t := 28) ?hr ?_; (case hd => rfl); (case hg => rfl); (case hr => exact qq6); intro gb101 hg w2 hbox hb; have BK101 := Aside0.mk (hbox); have GW101 := Aside0.mk ((qq9 : w.heap.size ≤ gb101)); have GE101 := Aside0.mk ((qq9 : w.heap.size ≤ gb101)); replace HB := Aside0.mk (below_step (qB HB.out) hb); clear hb hbox hg; obtain ⟨hcz3_0, hcz3_1, hcz3_2, hcz3_3, hcz3_4, hcz3_5, hfz3_0, hfz3_1, hfz3_2, hfz3_3, hfz3_4, hfz3_5⟩ := blk6 BK101.out))
  refine bodyPost_ret (results_cell_row rfl _ _ gb101 28 #[.int .i64 a0, .int .i64 16, .int .i64 0, .int .i64 47, .int .i64 0, .string (⟨#[]⟩ : ByteArray)] (0, 0) _ rfl (by refine bq ?_; refine blk_put (cs := #[.int .i64 a0, .int .i64 16, .int .i64 0, .int .i64 47, .int .i64 0, .string (⟨#[]⟩ : ByteArray)]) ?_ 5 _ rfl; refine bq ?_; refine blk_put (cs := #[.int .i64 a0, .int .i64 16, .int .i64 0, .int .i64 47, .int .i64 0, .string (⟨#[]⟩ : ByteArray)]) ?_ 4 _ rfl; refine bq ?_; refine blk_put (cs := #[.int .i64 a0, .int .i64 16, .int .i64 0, .int .i64 0, .int .i64 0, .string (⟨#[]⟩ : ByteArray)]) ?_ 3 _ rfl; refine bq ?_; refine blk_put (cs := #[.int .i64 a0, .int .i64 16, .int .i64 0, .int .i64 0, .int .i64 0, .string (⟨#[]⟩ : ByteArray)]) ?_ 2 _ rfl; refine bq ?_; refine blk_put (cs := #[.int .i64 a0, .int .i64 0, .int .i64 0, .int .i64 0, .int .i64 0, .string (⟨#[]⟩ : ByteArray)]) ?_ 1 _ rfl; refine bq ?_; refine blk_put (cs := #[.int .i64 0, .int .i64 0, .int .i64 0, .int .i64 0, .int .i64 0, .string (⟨#[]⟩ : ByteArray)]) ?_ 0 _ rfl; exact bq BK101.out) Try.underlying28 rfl (by kernel_rfl)) rfl ?_
  exact ⟨qq5, qS1 GE101 HB.out⟩
def partitalaw16_pick.f (a0 : Int) (a1 : Int) : Option (Int) := if a0 < 0 then (if a1 = 0 then (none) else (some (Int.tmod (wrap64 (-(wrap64 (a0 + 1)))) a1))) else (if a1 = 0 then (none) else (some (Int.tmod a0 a1)))
set_option maxHeartbeats 8000000 in
set_option maxRecDepth 100000 in
theorem partitalaw16_pick.calls (a0 : Int) (a1 : Int) (r : Int) (w : World) (h : partitalaw16_pick.f a0 a1 = some r) :
    Calls Try.prog 19 #[.int .i64 a0, .int .i64 a1] w fun e w' => e = .returned (.int .i64 r) ∧ Drawn0 w w' := by
  have H := h
  unfold partitalaw16_pick.f at H
  clear h
  by_cases c3 : a0 < 0
  · rw [if_pos c3] at H
    have c3b0 : decide (a0 < 0) = true := decide_eq_true c3
    clear c3
    by_cases c4 : a1 = 0
    · rw [if_pos c4] at H
      exact absurd H (by simp)
    rw [if_neg c4] at H
    have c4b0 : (a1 == 0) = false := beq_eq_false_iff_ne.mpr c4
    have c4b1 : (a1 != 0) = true := bne_iff_ne.mpr c4
    obtain rfl := Option.some.inj H
    go_enter Try.func19, Try.ntmps19
    go_wp2
    go_ret
    exact ⟨qq8, qqf⟩
  rw [if_neg c3] at H
  have c3b0 : decide (a0 < 0) = false := decide_eq_false c3
  clear c3
  by_cases c5 : a1 = 0
  · rw [if_pos c5] at H
    exact absurd H (by simp)
  rw [if_neg c5] at H
  have c5b0 : (a1 == 0) = false := beq_eq_false_iff_ne.mpr c5
  have c5b1 : (a1 != 0) = true := bne_iff_ne.mpr c5
  obtain rfl := Option.some.inj H
  go_enter Try.func19, Try.ntmps19
  go_wp2
  go_ret
  exact ⟨qq8, qqf⟩
end Go.Proofs.Ytdmnknhlibaaoaa.M
