/- Printed by a program of this session (wip/tools), out of the translation: functions with the same answers as the Go code, and the contracts of the code. Lean checks it. -/
import Derived.Test.YtmeefdaanjaoaaaM0
import Derived.Test.YtmeefdaanjaoaaaM9
import Derived.Test.YtmeefdaanjaoaaaM16
import Derived.Test.YtmeefdaanjaoaaaM17
import Derived.Test.YtmeefdaanjaoaaaM18
import Derived.Test.YtmeefdaanjaoaaaM25
namespace Go.Proofs.Ytmeefdaanjaoaaa.M
open Go.RowKit Go.Proofs.YtmeefdaanjaoaaaW.PrintWords Go.Proofs.YtmeefdaanjaoaaaW.PrintLast Go.Proofs.YtmeefdaanjaoaaaW.PrintMore
attribute [local go_sem] max2_int min2_int max_two min_two max_three min_three max_four min_four   -- for this text's walks alone
set_option linter.unusedVariables false
set_option linter.unusedSimpArgs false

/-! ### partitalaw15_WireJoins: function 11 -/
mutual
def partitalaw15_WireJoins.j0 : Nat → List (S31) → List (S31) → Bool → Bool → Option (Bool)
  | 0, _, _, _, _ => none
  | k + 1, x0, x1, x5, x23 => if x23 = true then (some x5) else ((wire_Encode.f k x0).bind fun bt438 => ((wire_Encode.f k x1).bind fun bt440 => ((some (([] : List (S31)) : List (S31))).bind fun y442 => (if y442.length + x0.length < 2513169434916 then ((some (y442 ++ x0 : List (S31))).bind fun y445 => (if y445.length + x1.length < 2513169434916 then ((wire_Encode.f k (y445 ++ x1)).bind fun bt451 => (if bt438.2 = 0 then (partitalaw15_WireJoins.j1 k x0 x1 x5 bt438.1 bt440.1 bt451.1 bt451.2 (bt440.2 != 0)) else (partitalaw15_WireJoins.j1 k x0 x1 x5 bt438.1 bt440.1 bt451.1 bt451.2 true))) else (none))) else (none)))))
def partitalaw15_WireJoins.j1 : Nat → List (S31) → List (S31) → Bool → ByteArray → ByteArray → ByteArray → Int → Bool → Option (Bool)
  | 0, _, _, _, _, _, _, _, _ => none
  | k + 1, x0, x1, x5, x6, x8, x10, x11, x49 => if x49 = true then (if x5 = true then (some (x11 == 151)) else (some false)) else (if x6.size + x8.size ≤ 9223372036854775807 then ((wire_Decode.f k (x6 ++ x8)).bind fun bt453 => (if x5 = true then (if x11 = 0 then (if bt453.2.2 = 0 then ((some (([] : List (S31)) : List (S31))).bind fun y458 => (if y458.length + x0.length < 2513169434916 then ((some (y458 ++ x0 : List (S31))).bind fun y461 => (if y461.length + x1.length < 2513169434916 then ((partitaref15_Same.f k bt453.1 (y461 ++ x1)).bind fun t467 => (if t467 = true then (if (x10.size : Int) = (wrap64 ((x6.size : Int) + (x8.size : Int))) then (some true) else (some ((x10.size : Int) == (wrap64 ((wrap64 ((x6.size : Int) + (x8.size : Int))) - 1))))) else (some false))) else (none))) else (none))) else (some false)) else (some false)) else (some false))) else (none))
end
def partitalaw15_WireJoins.f (k : Nat) (l0 : List (S31)) (l1 : List (S31)) : Option (Bool) := (partitalaw15_awake.f k).bind fun t435 => ((partitaref15_Few.f k l0).bind fun t436 => (if t436 = true then ((partitaref15_Few.f k l1).bind fun t437 => (partitalaw15_WireJoins.j0 k l0 l1 t435 (!t437))) else (partitalaw15_WireJoins.j0 k l0 l1 t435 true)))
theorem partitalaw15_WireJoins.mono_l : ∀ k, (∀ y0 y1 y2 y3, LeO (partitalaw15_WireJoins.j0 k y0 y1 y2 y3) (partitalaw15_WireJoins.j0 (k + 1) y0 y1 y2 y3)) ∧ (∀ y0 y1 y2 y3 y4 y5 y6 y7, LeO (partitalaw15_WireJoins.j1 k y0 y1 y2 y3 y4 y5 y6 y7) (partitalaw15_WireJoins.j1 (k + 1) y0 y1 y2 y3 y4 y5 y6 y7))
  | 0 => ⟨fun _ _ _ _ r h => by simp [partitalaw15_WireJoins.j0] at h, fun _ _ _ _ _ _ _ _ r h => by simp [partitalaw15_WireJoins.j1] at h⟩
  | k + 1 => by
    obtain ⟨ih0, ih1⟩ := partitalaw15_WireJoins.mono_l k
    refine ⟨?_, ?_⟩
    · intro y0 y1 y2 y3
      unfold partitalaw15_WireJoins.j0
      repeat' first
      | (with_reducible exact ih0 _ _ _ _)
      | (with_reducible exact ih1 _ _ _ _ _ _ _ _)
      | (with_reducible exact partitalaw15_awake.mono _)
      | (with_reducible exact partitaref15_Few.mono _ _)
      | (with_reducible exact partitaref15_Same.mono _ _ _)
      | (with_reducible exact wire_Decode.mono _ _)
      | (with_reducible exact wire_Encode.mono _ _)
      | (with_reducible exact LeO.refl _)
      | (with_reducible exact LeO.none _)
      | (with_reducible refine LeO.ite ?_ ?_)
      | (with_reducible refine LeO.bind ?_ (fun _ => ?_))
      | exact ih0 _ _ _ _
      | exact ih1 _ _ _ _ _ _ _ _
      | exact partitalaw15_awake.mono _
      | exact partitaref15_Few.mono _ _
      | exact partitaref15_Same.mono _ _ _
      | exact wire_Decode.mono _ _
      | exact wire_Encode.mono _ _
      | exact LeO.none _
      | refine LeO.ite ?_ ?_
      | refine LeO.bind ?_ (fun _ => ?_)
    · intro y0 y1 y2 y3 y4 y5 y6 y7
      unfold partitalaw15_WireJoins.j1
      repeat' first
      | (with_reducible exact ih0 _ _ _ _)
      | (with_reducible exact ih1 _ _ _ _ _ _ _ _)
      | (with_reducible exact partitalaw15_awake.mono _)
      | (with_reducible exact partitaref15_Few.mono _ _)
      | (with_reducible exact partitaref15_Same.mono _ _ _)
      | (with_reducible exact wire_Decode.mono _ _)
      | (with_reducible exact wire_Encode.mono _ _)
      | (with_reducible exact LeO.refl _)
      | (with_reducible exact LeO.none _)
      | (with_reducible refine LeO.ite ?_ ?_)
      | (with_reducible refine LeO.bind ?_ (fun _ => ?_))
      | exact ih0 _ _ _ _
      | exact ih1 _ _ _ _ _ _ _ _
      | exact partitalaw15_awake.mono _
      | exact partitaref15_Few.mono _ _
      | exact partitaref15_Same.mono _ _ _
      | exact wire_Decode.mono _ _
      | exact wire_Encode.mono _ _
      | exact LeO.none _
      | refine LeO.ite ?_ ?_
      | refine LeO.bind ?_ (fun _ => ?_)
theorem partitalaw15_WireJoins.mono : ∀ a0 a1 k, LeO (partitalaw15_WireJoins.f k a0 a1) (partitalaw15_WireJoins.f (k + 1) a0 a1) := by
  intro a0 a1 k
  obtain ⟨ih0, ih1⟩ := partitalaw15_WireJoins.mono_l k
  unfold partitalaw15_WireJoins.f
  repeat' first
      | (with_reducible exact ih0 _ _ _ _)
      | (with_reducible exact ih1 _ _ _ _ _ _ _ _)
      | (with_reducible exact partitalaw15_awake.mono _)
      | (with_reducible exact partitaref15_Few.mono _ _)
      | (with_reducible exact partitaref15_Same.mono _ _ _)
      | (with_reducible exact wire_Decode.mono _ _)
      | (with_reducible exact wire_Encode.mono _ _)
      | (with_reducible exact LeO.refl _)
      | (with_reducible exact LeO.none _)
      | (with_reducible refine LeO.ite ?_ ?_)
      | (with_reducible refine LeO.bind ?_ (fun _ => ?_))
      | exact ih0 _ _ _ _
      | exact ih1 _ _ _ _ _ _ _ _
      | exact partitalaw15_awake.mono _
      | exact partitaref15_Few.mono _ _
      | exact partitaref15_Same.mono _ _ _
      | exact wire_Decode.mono _ _
      | exact wire_Encode.mono _ _
      | exact LeO.none _
      | refine LeO.ite ?_ ?_
      | refine LeO.bind ?_ (fun _ => ?_)
set_option maxHeartbeats 8000000 in
set_option maxRecDepth 100000 in
theorem partitalaw15_WireJoins.calls (k : Nat) (A0 : Option Addr) (c0 : Nat) (l0 : List (S31)) (A1 : Option Addr) (c1 : Nat) (l1 : List (S31)) (r : Bool) (w : World) (hr0 : Kd.C k31 w A0 l0.length l0) (hc0 : l0.length ≤ c0) (hr1 : Kd.C k31 w A1 l1.length l1) (hc1 : l1.length ≤ c1) (h : partitalaw15_WireJoins.f k l0 l1 = some r) :
    Calls Try.prog 11 #[.slice A0 l0.length c0, .slice A1 l1.length c1] w fun e w' => e = .returned (.bool r) ∧ Below w.heap.size w w' := by
  have HR0 := Aside0.mk hr0
  have HC0 := Aside0.mk hc0
  clear hr0 hc0
  have HR1 := Aside0.mk hr1
  have HC1 := Aside0.mk hc1
  clear hr1 hc1
  have HB := Aside0.mk (Below.refl w.heap.size w)
  have H : ((partitalaw15_awake.f k).bind fun t435 => ((partitaref15_Few.f k l0).bind fun t436 => (if t436 = true then ((partitaref15_Few.f k l1).bind fun t437 => (partitalaw15_WireJoins.j0 k l0 l1 t435 (!t437))) else (partitalaw15_WireJoins.j0 k l0 l1 t435 true)))) = some r := h
  clear h
  replace H := Option.bind_eq_some_iff.mp H
  obtain ⟨t435, A30, H⟩ := H
  replace H : ((partitaref15_Few.f k l0).bind fun t436 => (if t436 = true then ((partitaref15_Few.f k l1).bind fun t437 => (partitalaw15_WireJoins.j0 k l0 l1 t435 (!t437))) else (partitalaw15_WireJoins.j0 k l0 l1 t435 true))) = some r := H
  have A3 := Aside0.mk A30
  clear A30
  have HC4 := Aside0.mk H
  clear H
  go_enter Try.func11, Try.ntmps11
  go_upto_region 2 with (first | ((with_reducible refine gate_callee (f := 14) rfl ?_); refine goesL_ (some 15) rfl rfl Try.func14 (by kernel_rfl) rfl #[] rfl (by (try simp only [List.map_toArray, List.map_cons, List.map_nil]); first | done | rfl | (simp only [List.length_drop, List.length_take]; rfl)) ?_; (with_reducible refine (partitalaw15_awake.calls k  t435 _ A3.out).mono ?_); rintro e w5 ⟨rfl, hb⟩; refine ⟨_, rfl, ?_⟩; have n0_ := Aside0.mk (below_step (by repeat (first | (with_reducible first | exact HB.out | apply below_alloc | apply pw_below_drewN | apply below_drew1) | exact HB.out)) hb); clear HB; have HB := n0_; clear n0_; (try clear hb); (try clear hb2); (try clear hk); (try clear hi)))
  (try simp only [Act.put, List.setIfInBounds_toArray, List.set_cons_zero, List.set_cons_succ])
  go_cut [23] (fun v23 wc => ∃ (kq : Nat) (x23_3 : Bool), v23 = .bool x23_3 ∧ Aside0 (partitalaw15_WireJoins.j0 kq l0 l1 t435 x23_3 = some r) ∧ Aside0 (kq ≤ k) ∧ Aside0 (Below w.heap.size w wc))
  case first =>
    have H := HC4.out
    clear HC4
    replace H := Option.bind_eq_some_iff.mp H
    obtain ⟨t436, A60, H⟩ := H
    replace H : (if t436 = true then ((partitaref15_Few.f k l1).bind fun t437 => (partitalaw15_WireJoins.j0 k l0 l1 t435 (!t437))) else (partitalaw15_WireJoins.j0 k l0 l1 t435 true)) = some r := H
    have A6 := Aside0.mk A60
    clear A60
    by_cases c7 : t436 = true
    · subst c7
      have H1 : ((partitaref15_Few.f k l1).bind fun t437 => (partitalaw15_WireJoins.j0 k l0 l1 t435 (!t437))) = some r := by rw [if_pos rfl] at H; exact H
      clear H
      have H := H1
      clear H1
      replace H := Option.bind_eq_some_iff.mp H
      obtain ⟨t437, A80, H⟩ := H
      replace H : (partitalaw15_WireJoins.j0 k l0 l1 t435 (!t437)) = some r := H
      have A8 := Aside0.mk A80
      clear A80
      have H' := Aside0.mk H
      clear H
      go_wp2_with (first | ((with_reducible refine gate_callee (f := 21) rfl ?_); refine goesL_ (some 17) rfl rfl Try.func21 (by kernel_rfl) rfl #[.slice A0 l0.length c0] rfl (by (try simp only [List.map_toArray, List.map_cons, List.map_nil]); first | done | rfl | (simp only [List.length_drop, List.length_take]; rfl)) ?_; (with_reducible refine (partitaref15_Few.calls k _ _ l0 true _ ?side1 ?side2 A6.out).mono ?_); (case side1 => repeat (first | exact (Kd.C_below HR0.out HB.out) | (with_reducible refine Kd.C_alloc ?_ _) | (with_reducible refine Kd.C_drewN ?_ _) | (with_reducible refine Kd.C_drew ?_))); (case side2 => exact HC0.out); rintro e w' ⟨rfl, ⟨nd, rfl⟩⟩; refine ⟨_, rfl, ?_⟩) | (go_at_call 21; (with_reducible refine (partitaref15_Few.calls k _ _ l1 t437 _ ?side1 ?side2 A8.out).mono ?_); (case side1 => repeat (first | exact (Kd.C_below HR1.out (by repeat (first | (with_reducible first | exact HB.out | apply below_alloc | apply pw_below_drewN | apply below_drew1) | exact HB.out))) | (with_reducible refine Kd.C_alloc ?_ _) | (with_reducible refine Kd.C_drewN ?_ _) | (with_reducible refine Kd.C_drew ?_))); (case side2 => exact HC1.out); rintro e w' ⟨rfl, ⟨nd, rfl⟩⟩))
      go_meet
      case rel => exact ⟨_, (!t437), (by first | rfl | (simp; done) | (simp [*]; done)), H', ⟨by first | omega | exact Nat.le_refl _⟩, ⟨by repeat (first | (with_reducible first | exact HB.out | apply below_alloc | apply pw_below_drewN | apply below_drew1) | exact HB.out)⟩⟩
    · replace c7 := Bool.eq_false_iff.mpr c7
      subst c7
      have H1 : (partitalaw15_WireJoins.j0 k l0 l1 t435 true) = some r := by rw [if_neg (show ¬ (false = true) by decide)] at H; exact H
      clear H
      have H := H1
      clear H1
      have H' := Aside0.mk H
      clear H
      go_wp2_with (first | ((with_reducible refine gate_callee (f := 21) rfl ?_); refine goesL_ (some 17) rfl rfl Try.func21 (by kernel_rfl) rfl #[.slice A0 l0.length c0] rfl (by (try simp only [List.map_toArray, List.map_cons, List.map_nil]); first | done | rfl | (simp only [List.length_drop, List.length_take]; rfl)) ?_; (with_reducible refine (partitaref15_Few.calls k _ _ l0 false _ ?side1 ?side2 A6.out).mono ?_); (case side1 => repeat (first | exact (Kd.C_below HR0.out HB.out) | (with_reducible refine Kd.C_alloc ?_ _) | (with_reducible refine Kd.C_drewN ?_ _) | (with_reducible refine Kd.C_drew ?_))); (case side2 => exact HC0.out); rintro e w' ⟨rfl, ⟨nd, rfl⟩⟩; refine ⟨_, rfl, ?_⟩))
      go_meet
      case rel => exact ⟨_, (true), (by first | rfl | (simp; done) | (simp [*]; done)), H', ⟨by first | omega | exact Nat.le_refl _⟩, ⟨by repeat (first | (with_reducible first | exact HB.out | apply below_alloc | apply pw_below_drewN | apply below_drew1) | exact HB.out)⟩⟩
  case rest =>
    clear HC4
    try clear c1
    try clear c2
    try clear p2
    try clear c7
    obtain ⟨kq, x23_3, rfl, HA, HJ3, HB⟩ := hcut
    cases kq with
    | zero => exact absurd HA.out (by simp [partitalaw15_WireJoins.j0])
    | succ kj3 =>
      have H := HA.out
      clear HA
      simp only [partitalaw15_WireJoins.j0] at H
      by_cases c9 : x23_3 = true
      · subst c9
        have H1 : (some t435) = some r := by rw [if_pos rfl] at H; exact H
        clear H
        have H := H1
        clear H1
        obtain rfl := Option.some.inj H
        go_wp2
        go_ret
        exact ⟨by first | rfl | (simp [errW_none, errW_some] <;> rfl) | (simp [*, errW_none, errW_some] <;> rfl), by repeat (first | (with_reducible first | exact HB.out | apply below_alloc | apply pw_below_drewN | apply below_drew1) | exact HB.out)⟩
      · replace c9 := Bool.eq_false_iff.mpr c9
        subst c9
        have H1 : ((wire_Encode.f kj3 l0).bind fun bt438 => ((wire_Encode.f kj3 l1).bind fun bt440 => ((some (([] : List (S31)) : List (S31))).bind fun y442 => (if y442.length + l0.length < 2513169434916 then ((some (y442 ++ l0 : List (S31))).bind fun y445 => (if y445.length + l1.length < 2513169434916 then ((wire_Encode.f kj3 (y445 ++ l1)).bind fun bt451 => (if bt438.2 = 0 then (partitalaw15_WireJoins.j1 kj3 l0 l1 t435 bt438.1 bt440.1 bt451.1 bt451.2 (bt440.2 != 0)) else (partitalaw15_WireJoins.j1 kj3 l0 l1 t435 bt438.1 bt440.1 bt451.1 bt451.2 true))) else (none))) else (none))))) = some r := by rw [if_neg (show ¬ (false = true) by decide)] at H; exact H
        clear H
        have H := H1
        clear H1
        replace H := Option.bind_eq_some_iff.mp H
        obtain ⟨⟨t438, t439⟩, A100, H⟩ := H
        replace H : ((wire_Encode.f kj3 l1).bind fun bt440 => ((some (([] : List (S31)) : List (S31))).bind fun y442 => (if y442.length + l0.length < 2513169434916 then ((some (y442 ++ l0 : List (S31))).bind fun y445 => (if y445.length + l1.length < 2513169434916 then ((wire_Encode.f kj3 (y445 ++ l1)).bind fun bt451 => (if t439 = 0 then (partitalaw15_WireJoins.j1 kj3 l0 l1 t435 t438 bt440.1 bt451.1 bt451.2 (bt440.2 != 0)) else (partitalaw15_WireJoins.j1 kj3 l0 l1 t435 t438 bt440.1 bt451.1 bt451.2 true))) else (none))) else (none)))) = some r := H
        have A10 := Aside0.mk A100
        clear A100
        replace H := Option.bind_eq_some_iff.mp H
        obtain ⟨⟨t440, t441⟩, A110, H⟩ := H
        replace H : ((some (([] : List (S31)) : List (S31))).bind fun y442 => (if y442.length + l0.length < 2513169434916 then ((some (y442 ++ l0 : List (S31))).bind fun y445 => (if y445.length + l1.length < 2513169434916 then ((wire_Encode.f kj3 (y445 ++ l1)).bind fun bt451 => (if t439 = 0 then (partitalaw15_WireJoins.j1 kj3 l0 l1 t435 t438 t440 bt451.1 bt451.2 (t441 != 0)) else (partitalaw15_WireJoins.j1 kj3 l0 l1 t435 t438 t440 bt451.1 bt451.2 true))) else (none))) else (none))) = some r := H
        have A11 := Aside0.mk A110
        clear A110
        obtain ⟨y442, hy442⟩ : ∃ y_ : List (S31), y_ = (([] : List (S31))) := ⟨_, rfl⟩
        replace H : (if y442.length + l0.length < 2513169434916 then ((some (y442 ++ l0 : List (S31))).bind fun y445 => (if y445.length + l1.length < 2513169434916 then ((wire_Encode.f kj3 (y445 ++ l1)).bind fun bt451 => (if t439 = 0 then (partitalaw15_WireJoins.j1 kj3 l0 l1 t435 t438 t440 bt451.1 bt451.2 (t441 != 0)) else (partitalaw15_WireJoins.j1 kj3 l0 l1 t435 t438 t440 bt451.1 bt451.2 true))) else (none))) else (none)) = some r := by first | (rw [hy442]; with_reducible exact H) | (have H2_ := (Option.bind_some _ _).symm.trans H; rw [hy442]; with_reducible exact H2_) | (have H2_ := (Option.bind_some _ _).symm.trans H; with_reducible exact H2_) | with_reducible exact H | (rw [hy442]; exact H) | exact H
        have Ny442 := Aside0.mk hy442
        clear hy442
        by_cases c12 : y442.length + l0.length < 2513169434916
        · rw [if_pos c12] at H
          have LMc12 := Aside0.mk c12
          clear c12
          obtain ⟨y445, hy445⟩ : ∃ y_ : List (S31), y_ = (y442 ++ l0) := ⟨_, rfl⟩
          replace H : (if y445.length + l1.length < 2513169434916 then ((wire_Encode.f kj3 (y445 ++ l1)).bind fun bt451 => (if t439 = 0 then (partitalaw15_WireJoins.j1 kj3 l0 l1 t435 t438 t440 bt451.1 bt451.2 (t441 != 0)) else (partitalaw15_WireJoins.j1 kj3 l0 l1 t435 t438 t440 bt451.1 bt451.2 true))) else (none)) = some r := by first | (rw [hy445]; with_reducible exact H) | (have H2_ := (Option.bind_some _ _).symm.trans H; rw [hy445]; with_reducible exact H2_) | (have H2_ := (Option.bind_some _ _).symm.trans H; with_reducible exact H2_) | with_reducible exact H | (rw [hy445]; exact H) | exact H
          have Ny445 := Aside0.mk hy445
          clear hy445
          by_cases c13 : y445.length + l1.length < 2513169434916
          · rw [if_pos c13] at H
            have LMc13 := Aside0.mk c13
            clear c13
            obtain ⟨y448, hy448⟩ : ∃ y_ : List (S31), y_ = (y445 ++ l1) := ⟨_, rfl⟩
            replace H : ((wire_Encode.f kj3 y448).bind fun bt451 => (if t439 = 0 then (partitalaw15_WireJoins.j1 kj3 l0 l1 t435 t438 t440 bt451.1 bt451.2 (t441 != 0)) else (partitalaw15_WireJoins.j1 kj3 l0 l1 t435 t438 t440 bt451.1 bt451.2 true))) = some r := by first | (rw [hy448]; with_reducible exact H) | (have H2_ := (Option.bind_some _ _).symm.trans H; rw [hy448]; with_reducible exact H2_) | (have H2_ := (Option.bind_some _ _).symm.trans H; with_reducible exact H2_) | with_reducible exact H | (rw [hy448]; exact H) | exact H
            have Ny448 := Aside0.mk hy448
            clear hy448
            replace H := Option.bind_eq_some_iff.mp H
            obtain ⟨⟨t451, t452⟩, A140, H⟩ := H
            replace H : (if t439 = 0 then (partitalaw15_WireJoins.j1 kj3 l0 l1 t435 t438 t440 t451 t452 (t441 != 0)) else (partitalaw15_WireJoins.j1 kj3 l0 l1 t435 t438 t440 t451 t452 true)) = some r := H
            have A14 := Aside0.mk A140
            clear A140
            have HC15 := Aside0.mk H
            clear H
            go_upto_region 7 with (first | ((with_reducible refine gate_callee (f := 22) rfl ?_); refine goesL_ (some 27) rfl rfl Try.func22 (by kernel_rfl) rfl #[.slice A0 l0.length c0] rfl (by (try simp only [List.map_toArray, List.map_cons, List.map_nil]); first | done | rfl | (simp only [List.length_drop, List.length_take]; rfl)) ?_; (with_reducible refine (wire_Encode.calls kj3 _ _ l0 t438 t439 _ ?side1 ?side2 A10.out).mono ?_); (case side1 => repeat (first | exact (Kd.C_below HR0.out HB.out) | (with_reducible refine Kd.C_alloc ?_ _) | (with_reducible refine Kd.C_drewN ?_ _) | (with_reducible refine Kd.C_drew ?_))); (case side2 => exact HC0.out); rintro e w16 ⟨rfl, hb⟩; refine ⟨_, rfl, ?_⟩; have n0_ := Aside0.mk (below_step (by repeat (first | (with_reducible first | exact HB.out | apply below_alloc | apply pw_below_drewN | apply below_drew1) | exact HB.out)) hb); clear HB; have HB := n0_; clear n0_; (try clear hb); (try clear hb2); (try clear hk); (try clear hi)) | ((with_reducible refine gate_callee (f := 22) rfl ?_); refine goesL_ (some 32) rfl rfl Try.func22 (by kernel_rfl) rfl #[.slice A1 l1.length c1] rfl (by (try simp only [List.map_toArray, List.map_cons, List.map_nil]); first | done | rfl | (simp only [List.length_drop, List.length_take]; rfl)) ?_; (with_reducible refine (wire_Encode.calls kj3 _ _ l1 t440 t441 _ ?side1 ?side2 A11.out).mono ?_); (case side1 => repeat (first | exact (Kd.C_below HR1.out HB.out) | (with_reducible refine Kd.C_alloc ?_ _) | (with_reducible refine Kd.C_drewN ?_ _) | (with_reducible refine Kd.C_drew ?_))); (case side2 => exact HC1.out); rintro e w17 ⟨rfl, hb⟩; refine ⟨_, rfl, ?_⟩; have n0_ := Aside0.mk (below_step (by repeat (first | (with_reducible first | exact HB.out | apply below_alloc | apply pw_below_drewN | apply below_drew1) | exact HB.out)) hb); clear HB; have HB := n0_; clear n0_; (try clear hb); (try clear hb2); (try clear hk); (try clear hi)) | ((with_reducible refine gate_dst (N := 36) rfl ?_); (try (refine gate_guard (by rfl) ?_; dsimp only)); refine Kd.R_lit k31 _ 31 ?hg (N := 36) ?hd (xs := ([] : List (S31))) (inner := []) (ok := fun _ => True) (okp := fun _ => True) ?hr ?hp (fun _ hk => hk) trivial (Below.refl _ _) (Nat.le_refl _) (by simp) ?_; (case hd => rfl); (case hg => rfl); (case hr => first | (go_simp; done) | (go_simp; rfl)); (case hp => exact (Reps.none _ _)); intro v443 w18 ho19 hb hg_ hnew_; clear hg_ hnew_; (first | rw [← Ny442.out] at ho19 | (simp only [Int.reduceToNat] at ho19; rw [← Ny442.out] at ho19)); have n0_ := Aside0.mk (Kd.R_lower ho19 (below_size (by repeat (first | (with_reducible first | exact HB.out | apply below_alloc | apply pw_below_drewN | apply below_drew1) | exact HB.out)))); have n1_ := Aside0.mk (below_step (by repeat (first | (with_reducible first | exact HB.out | apply below_alloc | apply pw_below_drewN | apply below_drew1) | exact HB.out)) hb); clear HB; have HO444 := n0_; have HB := n1_; clear n0_ n1_; clear hb ho19) | ((with_reducible refine gate_builtin (b := .append) (xs := #[.tmp 36, .tmp 37]) rfl ?_); (try (refine gate_guard (by rfl) ?_; dsimp only)); at_builtin; refine Kd.R_append_rows k31 (w0 := w) w.heap.size rfl (.tmp 36) (.tmp 37) 33 31 (.agg #[(.int .i64 0), (.int .i64 0), (.int .i64 0), (.int .i64 0), (.int .i64 0), (.string ⟨#[]⟩)]) 56 rfl Try.underlying33 info31 rfl (by decide) (by omega) v443 y442 l0 _ _ _ (fun _ => True) (fun _ => False) rfl rfl ?aO ?aR (fun _ _ h => h) (fun _ h => h.elim) ?aF ?aB ?aS ?aL ?_; (case aR => repeat (first | exact (Kd.C_below HR0.out HB.out) | (with_reducible refine Kd.C_alloc ?_ _) | (with_reducible refine Kd.C_drewN ?_ _) | (with_reducible refine Kd.C_drew ?_))); (case aB => exact (by repeat (first | (with_reducible first | exact HB.out | apply below_alloc | apply pw_below_drewN | apply below_drew1) | exact HB.out))); (case aF => exact (fun _ _ => trivial)); (case aO => exact (by (with_reducible repeat (first | apply Kd.R_alloc | apply Kd.R_drewN | apply Kd.R_drew)); exact HO444.out)); (case aS => exact (below_size (by repeat (first | (with_reducible first | exact HB.out | apply below_alloc | apply pw_below_drewN | apply below_drew1) | exact HB.out)))); (case aL => have := LMc12.out; omega); intro v446 w20 ho hb hg hat; rw [← Ny445.out] at ho; have n0_ := Aside0.mk (hb); have n1_ := Aside0.mk (ho); clear HB; clear HO444; have HB := n0_; have HO447 := n1_; clear n0_ n1_; clear ho hb hg hat) | ((with_reducible refine gate_builtin (b := .append) (xs := #[.tmp 38, .tmp 39]) rfl ?_); (try (refine gate_guard (by rfl) ?_; dsimp only)); at_builtin; refine Kd.R_append_rows k31 (w0 := w) w.heap.size rfl (.tmp 38) (.tmp 39) 33 31 (.agg #[(.int .i64 0), (.int .i64 0), (.int .i64 0), (.int .i64 0), (.int .i64 0), (.string ⟨#[]⟩)]) 56 rfl Try.underlying33 info31 rfl (by decide) (by omega) v446 y445 l1 _ _ _ (fun _ => True) (fun _ => False) rfl rfl ?aO ?aR (fun _ _ h => h) (fun _ h => h.elim) ?aF ?aB ?aS ?aL ?_; (case aR => repeat (first | exact (Kd.C_below HR1.out HB.out) | (with_reducible refine Kd.C_alloc ?_ _) | (with_reducible refine Kd.C_drewN ?_ _) | (with_reducible refine Kd.C_drew ?_))); (case aB => exact (by repeat (first | (with_reducible first | exact HB.out | apply below_alloc | apply pw_below_drewN | apply below_drew1) | exact HB.out))); (case aF => exact (fun _ _ => trivial)); (case aO => exact (by (with_reducible repeat (first | apply Kd.R_alloc | apply Kd.R_drewN | apply Kd.R_drew)); exact HO447.out)); (case aS => exact (below_size (by repeat (first | (with_reducible first | exact HB.out | apply below_alloc | apply pw_below_drewN | apply below_drew1) | exact HB.out)))); (case aL => have := LMc13.out; omega); intro v449 w21 ho hb hg hat; rw [← Ny448.out] at ho; have n0_ := Aside0.mk (hb); have n1_ := Aside0.mk (ho); clear HB; clear HO447; have HB := n0_; have HO450 := n1_; clear n0_ n1_; clear ho hb hg hat; obtain ⟨Ao22, co22, eo22⟩ := Kd.R_slice HO450.out; subst eo22) | ((with_reducible refine gate_callee (f := 22) rfl ?_); refine goesL_ (some 41) rfl rfl Try.func22 (by kernel_rfl) rfl #[.slice Ao22 y448.length co22] rfl (by (try simp only [List.map_toArray, List.map_cons, List.map_nil]); first | done | rfl | (simp only [List.length_drop, List.length_take]; rfl)) ?_; (with_reducible refine (wire_Encode.calls kj3 _ _ y448 t451 t452 _ ?side1 ?side2 A14.out).mono ?_); (case side1 => repeat (first | exact (Kd.R_reads' HO450.out).2.2 | (with_reducible refine Kd.C_alloc ?_ _) | (with_reducible refine Kd.C_drewN ?_ _) | (with_reducible refine Kd.C_drew ?_))); (case side2 => exact (Kd.R_reads' HO450.out).2.1); rintro e w23 ⟨rfl, hb⟩; refine ⟨_, rfl, ?_⟩; have n0_ := Aside0.mk (Kd.R_below (by (with_reducible repeat (first | apply Kd.R_alloc | apply Kd.R_drewN | apply Kd.R_drew)); exact HO450.out) hb); have n1_ := Aside0.mk (below_step (by repeat (first | (with_reducible first | exact HB.out | apply below_alloc | apply pw_below_drewN | apply below_drew1) | exact HB.out)) hb); clear HO450; clear HB; have HO450 := n0_; have HB := n1_; clear n0_ n1_; (try clear hb); (try clear hb2); (try clear hk); (try clear hi)))
            (try simp only [Act.put, List.setIfInBounds_toArray, List.set_cons_zero, List.set_cons_succ])
            go_cut [49] (fun v49 wc => ∃ (kq : Nat) (x49_14 : Bool), v49 = .bool x49_14 ∧ Aside0 (partitalaw15_WireJoins.j1 kq l0 l1 t435 t438 t440 t451 t452 x49_14 = some r) ∧ Aside0 (kq ≤ kj3) ∧ Aside0 (Below w.heap.size w wc))
            case first =>
              have H := HC15.out
              clear HC15
              by_cases c24 : t439 = 0
              · rw [if_pos c24] at H
                have c24b0 : (t439 == 0) = true := beq_iff_eq.mpr c24
                have c24b1 : (t439 != 0) = false := bne_eq_false_iff_eq.mpr c24
                clear c24
                (first | rw [c24b0] | (simp only [i64_w, i32_w]; rw [c24b0]) | skip)
                have H' := Aside0.mk H
                clear H
                go_wp2
                go_meet
                case rel => exact ⟨_, ((t441 != 0)), (by first | rfl | (simp; done) | (simp [*]; done)), H', ⟨by have := HJ3.out; first | omega | exact Nat.le_refl _⟩, ⟨by repeat (first | (with_reducible first | exact HB.out | apply below_alloc | apply pw_below_drewN | apply below_drew1) | exact HB.out)⟩⟩
              · rw [if_neg c24] at H
                have c24b0 : (t439 == 0) = false := beq_eq_false_iff_ne.mpr c24
                have c24b1 : (t439 != 0) = true := bne_iff_ne.mpr c24
                (first | rw [c24b0] | (simp only [i64_w, i32_w]; rw [c24b0]) | skip)
                have H' := Aside0.mk H
                clear H
                go_wp2
                go_meet
                case rel => exact ⟨_, (true), (by first | rfl | (simp; done) | (simp [*]; done)), H', ⟨by have := HJ3.out; first | omega | exact Nat.le_refl _⟩, ⟨by repeat (first | (with_reducible first | exact HB.out | apply below_alloc | apply pw_below_drewN | apply below_drew1) | exact HB.out)⟩⟩
            case rest =>
              clear HC15
              try clear c1
              try clear c2
              try clear p2
              try clear c7
              try clear c9
              try clear c11
              try clear c12
              try clear c13
              try clear c14
              try clear c21
              try clear c22
              try clear c24
              try clear c24b0
              try clear c24b1
              try clear p2
              obtain ⟨kq, x49_14, rfl, HA, HJ14, HB⟩ := hcut
              cases kq with
              | zero => exact absurd HA.out (by simp [partitalaw15_WireJoins.j1])
              | succ kj14 =>
                have H := HA.out
                clear HA
                simp only [partitalaw15_WireJoins.j1] at H
                by_cases c25 : x49_14 = true
                · subst c25
                  have H1 : (if t435 = true then (some (t452 == 151)) else (some false)) = some r := by rw [if_pos rfl] at H; exact H
                  clear H
                  have H := H1
                  clear H1
                  by_cases c26 : t435 = true
                  · subst c26
                    have H1 : (some (t452 == 151)) = some r := by rw [if_pos rfl] at H; exact H
                    clear H
                    have H := H1
                    clear H1
                    obtain rfl := Option.some.inj H
                    go_wp2
                    go_ret
                    exact ⟨by first | rfl | (simp [errW_none, errW_some] <;> rfl) | (simp [*, errW_none, errW_some] <;> rfl), by repeat (first | (with_reducible first | exact HB.out | apply below_alloc | apply pw_below_drewN | apply below_drew1) | exact HB.out)⟩
                  · replace c26 := Bool.eq_false_iff.mpr c26
                    subst c26
                    have H1 : (some false) = some r := by rw [if_neg (show ¬ (false = true) by decide)] at H; exact H
                    clear H
                    have H := H1
                    clear H1
                    obtain rfl := Option.some.inj H
                    go_wp2
                    go_ret
                    exact ⟨by first | rfl | (simp [errW_none, errW_some] <;> rfl) | (simp [*, errW_none, errW_some] <;> rfl), by repeat (first | (with_reducible first | exact HB.out | apply below_alloc | apply pw_below_drewN | apply below_drew1) | exact HB.out)⟩
                · replace c25 := Bool.eq_false_iff.mpr c25
                  subst c25
                  have H1 : (if t438.size + t440.size ≤ 9223372036854775807 then ((wire_Decode.f kj14 (t438 ++ t440)).bind fun bt453 => (if t435 = true then (if t452 = 0 then (if bt453.2.2 = 0 then ((some (([] : List (S31)) : List (S31))).bind fun y458 => (if y458.length + l0.length < 2513169434916 then ((some (y458 ++ l0 : List (S31))).bind fun y461 => (if y461.length + l1.length < 2513169434916 then ((partitaref15_Same.f kj14 bt453.1 (y461 ++ l1)).bind fun t467 => (if t467 = true then (if (t451.size : Int) = (wrap64 ((t438.size : Int) + (t440.size : Int))) then (some true) else (some ((t451.size : Int) == (wrap64 ((wrap64 ((t438.size : Int) + (t440.size : Int))) - 1))))) else (some false))) else (none))) else (none))) else (some false)) else (some false)) else (some false))) else (none)) = some r := by rw [if_neg (show ¬ (false = true) by decide)] at H; exact H
                  clear H
                  have H := H1
                  clear H1
                  by_cases c27 : t438.size + t440.size ≤ 9223372036854775807
                  · rw [if_pos c27] at H
                    have c27b0 := eq_true c27
                    have c27b1 : decide (t438.size + t440.size ≤ 9223372036854775807) = true := decide_eq_true c27
                    try have c27b2 : (9223372036854775807 < t438.size + t440.size) = False := eq_false (Nat.not_lt.2 c27)
                    replace H := Option.bind_eq_some_iff.mp H
                    obtain ⟨⟨t453, t454, t455⟩, A280, H⟩ := H
                    replace H : (if t435 = true then (if t452 = 0 then (if t455 = 0 then ((some (([] : List (S31)) : List (S31))).bind fun y458 => (if y458.length + l0.length < 2513169434916 then ((some (y458 ++ l0 : List (S31))).bind fun y461 => (if y461.length + l1.length < 2513169434916 then ((partitaref15_Same.f kj14 t453 (y461 ++ l1)).bind fun t467 => (if t467 = true then (if (t451.size : Int) = (wrap64 ((t438.size : Int) + (t440.size : Int))) then (some true) else (some ((t451.size : Int) == (wrap64 ((wrap64 ((t438.size : Int) + (t440.size : Int))) - 1))))) else (some false))) else (none))) else (none))) else (some false)) else (some false)) else (some false)) = some r := H
                    have A28 := Aside0.mk A280
                    clear A280
                    by_cases c29 : t435 = true
                    · subst c29
                      have H1 : (if t452 = 0 then (if t455 = 0 then ((some (([] : List (S31)) : List (S31))).bind fun y458 => (if y458.length + l0.length < 2513169434916 then ((some (y458 ++ l0 : List (S31))).bind fun y461 => (if y461.length + l1.length < 2513169434916 then ((partitaref15_Same.f kj14 t453 (y461 ++ l1)).bind fun t467 => (if t467 = true then (if (t451.size : Int) = (wrap64 ((t438.size : Int) + (t440.size : Int))) then (some true) else (some ((t451.size : Int) == (wrap64 ((wrap64 ((t438.size : Int) + (t440.size : Int))) - 1))))) else (some false))) else (none))) else (none))) else (some false)) else (some false)) = some r := by rw [if_pos rfl] at H; exact H
                      clear H
                      have H := H1
                      clear H1
                      by_cases c30 : t452 = 0
                      · rw [if_pos c30] at H
                        have c30b0 : (t452 == 0) = true := beq_iff_eq.mpr c30
                        have c30b1 : (t452 != 0) = false := bne_eq_false_iff_eq.mpr c30
                        clear c30
                        by_cases c31 : t455 = 0
                        · rw [if_pos c31] at H
                          have c31b0 : (t455 == 0) = true := beq_iff_eq.mpr c31
                          have c31b1 : (t455 != 0) = false := bne_eq_false_iff_eq.mpr c31
                          clear c31
                          obtain ⟨y458, hy458⟩ : ∃ y_ : List (S31), y_ = (([] : List (S31))) := ⟨_, rfl⟩
                          replace H : (if y458.length + l0.length < 2513169434916 then ((some (y458 ++ l0 : List (S31))).bind fun y461 => (if y461.length + l1.length < 2513169434916 then ((partitaref15_Same.f kj14 t453 (y461 ++ l1)).bind fun t467 => (if t467 = true then (if (t451.size : Int) = (wrap64 ((t438.size : Int) + (t440.size : Int))) then (some true) else (some ((t451.size : Int) == (wrap64 ((wrap64 ((t438.size : Int) + (t440.size : Int))) - 1))))) else (some false))) else (none))) else (none)) = some r := by first | (rw [hy458]; with_reducible exact H) | (have H2_ := (Option.bind_some _ _).symm.trans H; rw [hy458]; with_reducible exact H2_) | (have H2_ := (Option.bind_some _ _).symm.trans H; with_reducible exact H2_) | with_reducible exact H | (rw [hy458]; exact H) | exact H
                          have Ny458 := Aside0.mk hy458
                          clear hy458
                          by_cases c32 : y458.length + l0.length < 2513169434916
                          · rw [if_pos c32] at H
                            have LMc32 := Aside0.mk c32
                            clear c32
                            obtain ⟨y461, hy461⟩ : ∃ y_ : List (S31), y_ = (y458 ++ l0) := ⟨_, rfl⟩
                            replace H : (if y461.length + l1.length < 2513169434916 then ((partitaref15_Same.f kj14 t453 (y461 ++ l1)).bind fun t467 => (if t467 = true then (if (t451.size : Int) = (wrap64 ((t438.size : Int) + (t440.size : Int))) then (some true) else (some ((t451.size : Int) == (wrap64 ((wrap64 ((t438.size : Int) + (t440.size : Int))) - 1))))) else (some false))) else (none)) = some r := by first | (rw [hy461]; with_reducible exact H) | (have H2_ := (Option.bind_some _ _).symm.trans H; rw [hy461]; with_reducible exact H2_) | (have H2_ := (Option.bind_some _ _).symm.trans H; with_reducible exact H2_) | with_reducible exact H | (rw [hy461]; exact H) | exact H
                            have Ny461 := Aside0.mk hy461
                            clear hy461
                            by_cases c33 : y461.length + l1.length < 2513169434916
                            · rw [if_pos c33] at H
                              have LMc33 := Aside0.mk c33
                              clear c33
                              obtain ⟨y464, hy464⟩ : ∃ y_ : List (S31), y_ = (y461 ++ l1) := ⟨_, rfl⟩
                              replace H : ((partitaref15_Same.f kj14 t453 y464).bind fun t467 => (if t467 = true then (if (t451.size : Int) = (wrap64 ((t438.size : Int) + (t440.size : Int))) then (some true) else (some ((t451.size : Int) == (wrap64 ((wrap64 ((t438.size : Int) + (t440.size : Int))) - 1))))) else (some false))) = some r := by first | (rw [hy464]; with_reducible exact H) | (have H2_ := (Option.bind_some _ _).symm.trans H; rw [hy464]; with_reducible exact H2_) | (have H2_ := (Option.bind_some _ _).symm.trans H; with_reducible exact H2_) | with_reducible exact H | (rw [hy464]; exact H) | exact H
                              have Ny464 := Aside0.mk hy464
                              clear hy464
                              replace H := Option.bind_eq_some_iff.mp H
                              obtain ⟨t467, A340, H⟩ := H
                              replace H : (if t467 = true then (if (t451.size : Int) = (wrap64 ((t438.size : Int) + (t440.size : Int))) then (some true) else (some ((t451.size : Int) == (wrap64 ((wrap64 ((t438.size : Int) + (t440.size : Int))) - 1))))) else (some false)) = some r := H
                              have A34 := Aside0.mk A340
                              clear A340
                              by_cases c35 : t467 = true
                              · subst c35
                                have H1 : (if (t451.size : Int) = (wrap64 ((t438.size : Int) + (t440.size : Int))) then (some true) else (some ((t451.size : Int) == (wrap64 ((wrap64 ((t438.size : Int) + (t440.size : Int))) - 1))))) = some r := by rw [if_pos rfl] at H; exact H
                                clear H
                                have H := H1
                                clear H1
                                by_cases c36 : (t451.size : Int) = (wrap64 ((t438.size : Int) + (t440.size : Int)))
                                · rw [if_pos c36] at H
                                  have c36b0 : ((t451.size : Int) == (wrap64 ((t438.size : Int) + (t440.size : Int)))) = true := beq_iff_eq.mpr c36
                                  have c36b1 : ((t451.size : Int) != (wrap64 ((t438.size : Int) + (t440.size : Int)))) = false := bne_eq_false_iff_eq.mpr c36
                                  clear c36
                                  rw [IntWalk.wrap64_in ((t438.size : Int) + (t440.size : Int)) (by omega)] at c36b0 c36b1
                                  obtain rfl := Option.some.inj H
                                  go_wp2_with (first | ((with_reducible refine gate_callee (f := 24) rfl ?_); refine goesL_ (some 59) rfl rfl Try.func24 (by kernel_rfl) rfl #[.string (t438 ++ t440)] rfl (by (try simp only [List.map_toArray, List.map_cons, List.map_nil]); first | done | rfl | (simp only [List.length_drop, List.length_take]; rfl)) ?_; (with_reducible refine (wire_Decode.calls kj14 (t438 ++ t440) t453 t454 t455 _ A28.out).mono ?_); rintro e w37 ⟨v456, rfl, ho0, hb⟩; refine ⟨_, rfl, ?_⟩; have n0_ := Aside0.mk (Kd.R_lower ho0 (below_size (by repeat (first | (with_reducible first | exact HB.out | apply below_alloc | apply pw_below_drewN | apply below_drew1) | exact HB.out)))); have n1_ := Aside0.mk (below_step (by repeat (first | (with_reducible first | exact HB.out | apply below_alloc | apply pw_below_drewN | apply below_drew1) | exact HB.out)) hb); clear HB; have HO457 := n0_; have HB := n1_; clear n0_ n1_; (try clear hb); (try clear hb2); (try clear hk); (try clear hi); (try clear ho0)) | ((with_reducible refine gate_dst (N := 74) rfl ?_); (try (refine gate_guard (by rfl) ?_; dsimp only)); refine Kd.R_lit k31 _ 31 ?hg (N := 74) ?hd (xs := ([] : List (S31))) (inner := []) (ok := fun _ => True) (okp := fun _ => True) ?hr ?hp (fun _ hk => hk) trivial (Below.refl _ _) (Nat.le_refl _) (by simp) ?_; (case hd => rfl); (case hg => rfl); (case hr => first | (go_simp; done) | (go_simp; rfl)); (case hp => exact (Reps.none _ _)); intro v459 w38 ho39 hb hg_ hnew_; clear hg_ hnew_; (first | rw [← Ny458.out] at ho39 | (simp only [Int.reduceToNat] at ho39; rw [← Ny458.out] at ho39)); have n0_ := Aside0.mk (Kd.R_elder' (by (with_reducible repeat (first | apply Kd.R_alloc | apply Kd.R_drewN | apply Kd.R_drew)); exact HO457.out) (Kd.R_base ho39) hb); have n1_ := Aside0.mk (Kd.R_lower (Kd.R_new' ho39 (Kd.R_lt (by (with_reducible repeat (first | apply Kd.R_alloc | apply Kd.R_drewN | apply Kd.R_drew)); exact HO457.out))) (below_size (by repeat (first | (with_reducible first | exact HB.out | apply below_alloc | apply pw_below_drewN | apply below_drew1) | exact HB.out)))); have n2_ := Aside0.mk (below_step (by repeat (first | (with_reducible first | exact HB.out | apply below_alloc | apply pw_below_drewN | apply below_drew1) | exact HB.out)) hb); clear HO457; clear HB; have HO457 := n0_; have HO460 := n1_; have HB := n2_; clear n0_ n1_ n2_; clear hb ho39) | ((with_reducible refine gate_builtin (b := .append) (xs := #[.tmp 74, .tmp 75]) rfl ?_); (try (refine gate_guard (by rfl) ?_; dsimp only)); at_builtin; refine Kd.R_append_rows k31 (w0 := w) w.heap.size rfl (.tmp 74) (.tmp 75) 33 31 (.agg #[(.int .i64 0), (.int .i64 0), (.int .i64 0), (.int .i64 0), (.int .i64 0), (.string ⟨#[]⟩)]) 56 rfl Try.underlying33 info31 rfl (by decide) (by omega) v459 y458 l0 _ _ _ (fun k_ => some k_ ≠ (v456 : Value).ownBlock) (fun _ => False) rfl rfl ?aO ?aR (fun _ _ h => h) (fun _ h => h.elim) ?aF ?aB ?aS ?aL ?_; (case aR => repeat (first | exact (Kd.C_below HR0.out HB.out) | (with_reducible refine Kd.C_alloc ?_ _) | (with_reducible refine Kd.C_drewN ?_ _) | (with_reducible refine Kd.C_drew ?_))); (case aB => exact (by repeat (first | (with_reducible first | exact HB.out | apply below_alloc | apply pw_below_drewN | apply below_drew1) | exact HB.out))); (case aF => exact (fun k_ hk => Kd.fresh' (Kd.R_lt (by (with_reducible repeat (first | apply Kd.R_alloc | apply Kd.R_drewN | apply Kd.R_drew)); exact HO457.out)) k_ hk)); (case aO => exact (by (with_reducible repeat (first | apply Kd.R_alloc | apply Kd.R_drewN | apply Kd.R_drew)); exact Kd.R_mono HO460.out (fun _ hk => hk.2))); (case aS => exact (below_size (by repeat (first | (with_reducible first | exact HB.out | apply below_alloc | apply pw_below_drewN | apply below_drew1) | exact HB.out)))); (case aL => have := LMc32.out; omega); intro v462 w40 ho hb hg hat; rw [← Ny461.out] at ho; have n0_ := Aside0.mk (Kd.R_after (ok := (fun _ => True)) (by (with_reducible repeat (first | apply Kd.R_alloc | apply Kd.R_drewN | apply Kd.R_drew)); exact HO457.out) hg hat); have n1_ := Aside0.mk (hb); have n2_ := Aside0.mk (ho); clear HO457; clear HB; clear HO460; have HO457 := n0_; have HB := n1_; have HO463 := n2_; clear n0_ n1_ n2_; clear ho hb hg hat) | ((with_reducible refine gate_builtin (b := .append) (xs := #[.tmp 76, .tmp 77]) rfl ?_); (try (refine gate_guard (by rfl) ?_; dsimp only)); at_builtin; refine Kd.R_append_rows k31 (w0 := w) w.heap.size rfl (.tmp 76) (.tmp 77) 33 31 (.agg #[(.int .i64 0), (.int .i64 0), (.int .i64 0), (.int .i64 0), (.int .i64 0), (.string ⟨#[]⟩)]) 56 rfl Try.underlying33 info31 rfl (by decide) (by omega) v462 y461 l1 _ _ _ (fun k_ => some k_ ≠ (v456 : Value).ownBlock) (fun _ => False) rfl rfl ?aO ?aR (fun _ _ h => h) (fun _ h => h.elim) ?aF ?aB ?aS ?aL ?_; (case aR => repeat (first | exact (Kd.C_below HR1.out HB.out) | (with_reducible refine Kd.C_alloc ?_ _) | (with_reducible refine Kd.C_drewN ?_ _) | (with_reducible refine Kd.C_drew ?_))); (case aB => exact (by repeat (first | (with_reducible first | exact HB.out | apply below_alloc | apply pw_below_drewN | apply below_drew1) | exact HB.out))); (case aF => exact (fun k_ hk => Kd.fresh' (Kd.R_lt (by (with_reducible repeat (first | apply Kd.R_alloc | apply Kd.R_drewN | apply Kd.R_drew)); exact HO457.out)) k_ hk)); (case aO => exact (by (with_reducible repeat (first | apply Kd.R_alloc | apply Kd.R_drewN | apply Kd.R_drew)); exact HO463.out)); (case aS => exact (below_size (by repeat (first | (with_reducible first | exact HB.out | apply below_alloc | apply pw_below_drewN | apply below_drew1) | exact HB.out)))); (case aL => have := LMc33.out; omega); intro v465 w41 ho hb hg hat; rw [← Ny464.out] at ho; have n0_ := Aside0.mk (Kd.R_after (ok := (fun _ => True)) (by (with_reducible repeat (first | apply Kd.R_alloc | apply Kd.R_drewN | apply Kd.R_drew)); exact HO457.out) hg hat); have n1_ := Aside0.mk (hb); have n2_ := Aside0.mk (ho); clear HO457; clear HB; clear HO463; have HO457 := n0_; have HB := n1_; have HO466 := n2_; clear n0_ n1_ n2_; clear ho hb hg hat; obtain ⟨Ao42, co42, eo42⟩ := Kd.R_slice HO457.out; subst eo42; obtain ⟨Ao43, co43, eo43⟩ := Kd.R_slice HO466.out; subst eo43) | (go_at_call 26; (with_reducible refine (partitaref15_Same.calls kj14 _ _ t453 _ _ y464 true _ ?side1 ?side2 ?side3 ?side4 A34.out).mono ?_); (case side1 => repeat (first | exact (Kd.R_reads' HO457.out).2.2 | (with_reducible refine Kd.C_alloc ?_ _) | (with_reducible refine Kd.C_drewN ?_ _) | (with_reducible refine Kd.C_drew ?_))); (case side2 => exact (Kd.R_reads' HO457.out).2.1); (case side3 => repeat (first | exact (Kd.R_reads' HO466.out).2.2 | (with_reducible refine Kd.C_alloc ?_ _) | (with_reducible refine Kd.C_drewN ?_ _) | (with_reducible refine Kd.C_drew ?_))); (case side4 => exact (Kd.R_reads' HO466.out).2.1); rintro e w' ⟨rfl, ⟨nd, rfl⟩⟩))
                                  go_ret
                                  exact ⟨by first | rfl | (simp [errW_none, errW_some] <;> rfl) | (simp [*, errW_none, errW_some] <;> rfl), by repeat (first | (with_reducible first | exact HB.out | apply below_alloc | apply pw_below_drewN | apply below_drew1) | exact HB.out)⟩
                                · rw [if_neg c36] at H
                                  have c36b0 : ((t451.size : Int) == (wrap64 ((t438.size : Int) + (t440.size : Int)))) = false := beq_eq_false_iff_ne.mpr c36
                                  have c36b1 : ((t451.size : Int) != (wrap64 ((t438.size : Int) + (t440.size : Int)))) = true := bne_iff_ne.mpr c36
                                  clear c36
                                  rw [IntWalk.wrap64_in ((t438.size : Int) + (t440.size : Int)) (by omega)] at c36b0 c36b1
                                  obtain rfl := Option.some.inj H
                                  go_wp2_with (first | ((with_reducible refine gate_callee (f := 24) rfl ?_); refine goesL_ (some 59) rfl rfl Try.func24 (by kernel_rfl) rfl #[.string (t438 ++ t440)] rfl (by (try simp only [List.map_toArray, List.map_cons, List.map_nil]); first | done | rfl | (simp only [List.length_drop, List.length_take]; rfl)) ?_; (with_reducible refine (wire_Decode.calls kj14 (t438 ++ t440) t453 t454 t455 _ A28.out).mono ?_); rintro e w44 ⟨v456, rfl, ho0, hb⟩; refine ⟨_, rfl, ?_⟩; have n0_ := Aside0.mk (Kd.R_lower ho0 (below_size (by repeat (first | (with_reducible first | exact HB.out | apply below_alloc | apply pw_below_drewN | apply below_drew1) | exact HB.out)))); have n1_ := Aside0.mk (below_step (by repeat (first | (with_reducible first | exact HB.out | apply below_alloc | apply pw_below_drewN | apply below_drew1) | exact HB.out)) hb); clear HB; have HO457 := n0_; have HB := n1_; clear n0_ n1_; (try clear hb); (try clear hb2); (try clear hk); (try clear hi); (try clear ho0)) | ((with_reducible refine gate_dst (N := 74) rfl ?_); (try (refine gate_guard (by rfl) ?_; dsimp only)); refine Kd.R_lit k31 _ 31 ?hg (N := 74) ?hd (xs := ([] : List (S31))) (inner := []) (ok := fun _ => True) (okp := fun _ => True) ?hr ?hp (fun _ hk => hk) trivial (Below.refl _ _) (Nat.le_refl _) (by simp) ?_; (case hd => rfl); (case hg => rfl); (case hr => first | (go_simp; done) | (go_simp; rfl)); (case hp => exact (Reps.none _ _)); intro v459 w45 ho46 hb hg_ hnew_; clear hg_ hnew_; (first | rw [← Ny458.out] at ho46 | (simp only [Int.reduceToNat] at ho46; rw [← Ny458.out] at ho46)); have n0_ := Aside0.mk (Kd.R_elder' (by (with_reducible repeat (first | apply Kd.R_alloc | apply Kd.R_drewN | apply Kd.R_drew)); exact HO457.out) (Kd.R_base ho46) hb); have n1_ := Aside0.mk (Kd.R_lower (Kd.R_new' ho46 (Kd.R_lt (by (with_reducible repeat (first | apply Kd.R_alloc | apply Kd.R_drewN | apply Kd.R_drew)); exact HO457.out))) (below_size (by repeat (first | (with_reducible first | exact HB.out | apply below_alloc | apply pw_below_drewN | apply below_drew1) | exact HB.out)))); have n2_ := Aside0.mk (below_step (by repeat (first | (with_reducible first | exact HB.out | apply below_alloc | apply pw_below_drewN | apply below_drew1) | exact HB.out)) hb); clear HO457; clear HB; have HO457 := n0_; have HO460 := n1_; have HB := n2_; clear n0_ n1_ n2_; clear hb ho46) | ((with_reducible refine gate_builtin (b := .append) (xs := #[.tmp 74, .tmp 75]) rfl ?_); (try (refine gate_guard (by rfl) ?_; dsimp only)); at_builtin; refine Kd.R_append_rows k31 (w0 := w) w.heap.size rfl (.tmp 74) (.tmp 75) 33 31 (.agg #[(.int .i64 0), (.int .i64 0), (.int .i64 0), (.int .i64 0), (.int .i64 0), (.string ⟨#[]⟩)]) 56 rfl Try.underlying33 info31 rfl (by decide) (by omega) v459 y458 l0 _ _ _ (fun k_ => some k_ ≠ (v456 : Value).ownBlock) (fun _ => False) rfl rfl ?aO ?aR (fun _ _ h => h) (fun _ h => h.elim) ?aF ?aB ?aS ?aL ?_; (case aR => repeat (first | exact (Kd.C_below HR0.out HB.out) | (with_reducible refine Kd.C_alloc ?_ _) | (with_reducible refine Kd.C_drewN ?_ _) | (with_reducible refine Kd.C_drew ?_))); (case aB => exact (by repeat (first | (with_reducible first | exact HB.out | apply below_alloc | apply pw_below_drewN | apply below_drew1) | exact HB.out))); (case aF => exact (fun k_ hk => Kd.fresh' (Kd.R_lt (by (with_reducible repeat (first | apply Kd.R_alloc | apply Kd.R_drewN | apply Kd.R_drew)); exact HO457.out)) k_ hk)); (case aO => exact (by (with_reducible repeat (first | apply Kd.R_alloc | apply Kd.R_drewN | apply Kd.R_drew)); exact Kd.R_mono HO460.out (fun _ hk => hk.2))); (case aS => exact (below_size (by repeat (first | (with_reducible first | exact HB.out | apply below_alloc | apply pw_below_drewN | apply below_drew1) | exact HB.out)))); (case aL => have := LMc32.out; omega); intro v462 w47 ho hb hg hat; rw [← Ny461.out] at ho; have n0_ := Aside0.mk (Kd.R_after (ok := (fun _ => True)) (by (with_reducible repeat (first | apply Kd.R_alloc | apply Kd.R_drewN | apply Kd.R_drew)); exact HO457.out) hg hat); have n1_ := Aside0.mk (hb); have n2_ := Aside0.mk (ho); clear HO457; clear HB; clear HO460; have HO457 := n0_; have HB := n1_; have HO463 := n2_; clear n0_ n1_ n2_; clear ho hb hg hat) | ((with_reducible refine gate_builtin (b := .append) (xs := #[.tmp 76, .tmp 77]) rfl ?_); (try (refine gate_guard (by rfl) ?_; dsimp only)); at_builtin; refine Kd.R_append_rows k31 (w0 := w) w.heap.size rfl (.tmp 76) (.tmp 77) 33 31 (.agg #[(.int .i64 0), (.int .i64 0), (.int .i64 0), (.int .i64 0), (.int .i64 0), (.string ⟨#[]⟩)]) 56 rfl Try.underlying33 info31 rfl (by decide) (by omega) v462 y461 l1 _ _ _ (fun k_ => some k_ ≠ (v456 : Value).ownBlock) (fun _ => False) rfl rfl ?aO ?aR (fun _ _ h => h) (fun _ h => h.elim) ?aF ?aB ?aS ?aL ?_; (case aR => repeat (first | exact (Kd.C_below HR1.out HB.out) | (with_reducible refine Kd.C_alloc ?_ _) | (with_reducible refine Kd.C_drewN ?_ _) | (with_reducible refine Kd.C_drew ?_))); (case aB => exact (by repeat (first | (with_reducible first | exact HB.out | apply below_alloc | apply pw_below_drewN | apply below_drew1) | exact HB.out))); (case aF => exact (fun k_ hk => Kd.fresh' (Kd.R_lt (by (with_reducible repeat (first | apply Kd.R_alloc | apply Kd.R_drewN | apply Kd.R_drew)); exact HO457.out)) k_ hk)); (case aO => exact (by (with_reducible repeat (first | apply Kd.R_alloc | apply Kd.R_drewN | apply Kd.R_drew)); exact HO463.out)); (case aS => exact (below_size (by repeat (first | (with_reducible first | exact HB.out | apply below_alloc | apply pw_below_drewN | apply below_drew1) | exact HB.out)))); (case aL => have := LMc33.out; omega); intro v465 w48 ho hb hg hat; rw [← Ny464.out] at ho; have n0_ := Aside0.mk (Kd.R_after (ok := (fun _ => True)) (by (with_reducible repeat (first | apply Kd.R_alloc | apply Kd.R_drewN | apply Kd.R_drew)); exact HO457.out) hg hat); have n1_ := Aside0.mk (hb); have n2_ := Aside0.mk (ho); clear HO457; clear HB; clear HO463; have HO457 := n0_; have HB := n1_; have HO466 := n2_; clear n0_ n1_ n2_; clear ho hb hg hat; obtain ⟨Ao49, co49, eo49⟩ := Kd.R_slice HO457.out; subst eo49; obtain ⟨Ao50, co50, eo50⟩ := Kd.R_slice HO466.out; subst eo50) | (go_at_call 26; (with_reducible refine (partitaref15_Same.calls kj14 _ _ t453 _ _ y464 true _ ?side1 ?side2 ?side3 ?side4 A34.out).mono ?_); (case side1 => repeat (first | exact (Kd.R_reads' HO457.out).2.2 | (with_reducible refine Kd.C_alloc ?_ _) | (with_reducible refine Kd.C_drewN ?_ _) | (with_reducible refine Kd.C_drew ?_))); (case side2 => exact (Kd.R_reads' HO457.out).2.1); (case side3 => repeat (first | exact (Kd.R_reads' HO466.out).2.2 | (with_reducible refine Kd.C_alloc ?_ _) | (with_reducible refine Kd.C_drewN ?_ _) | (with_reducible refine Kd.C_drew ?_))); (case side4 => exact (Kd.R_reads' HO466.out).2.1); rintro e w' ⟨rfl, ⟨nd, rfl⟩⟩))
                                  go_ret
                                  exact ⟨by rw [IntWalk.wrap64_in ((t438.size : Int) + (t440.size : Int)) (by omega), IntWalk.wrap64_in ((t438.size : Int) + (t440.size : Int) - 1) (by omega)]; rfl, by repeat (first | (with_reducible first | exact HB.out | apply below_alloc | apply pw_below_drewN | apply below_drew1) | exact HB.out)⟩
                              · replace c35 := Bool.eq_false_iff.mpr c35
                                subst c35
                                have H1 : (some false) = some r := by rw [if_neg (show ¬ (false = true) by decide)] at H; exact H
                                clear H
                                have H := H1
                                clear H1
                                obtain rfl := Option.some.inj H
                                go_wp2_with (first | ((with_reducible refine gate_callee (f := 24) rfl ?_); refine goesL_ (some 59) rfl rfl Try.func24 (by kernel_rfl) rfl #[.string (t438 ++ t440)] rfl (by (try simp only [List.map_toArray, List.map_cons, List.map_nil]); first | done | rfl | (simp only [List.length_drop, List.length_take]; rfl)) ?_; (with_reducible refine (wire_Decode.calls kj14 (t438 ++ t440) t453 t454 t455 _ A28.out).mono ?_); rintro e w51 ⟨v456, rfl, ho0, hb⟩; refine ⟨_, rfl, ?_⟩; have n0_ := Aside0.mk (Kd.R_lower ho0 (below_size (by repeat (first | (with_reducible first | exact HB.out | apply below_alloc | apply pw_below_drewN | apply below_drew1) | exact HB.out)))); have n1_ := Aside0.mk (below_step (by repeat (first | (with_reducible first | exact HB.out | apply below_alloc | apply pw_below_drewN | apply below_drew1) | exact HB.out)) hb); clear HB; have HO457 := n0_; have HB := n1_; clear n0_ n1_; (try clear hb); (try clear hb2); (try clear hk); (try clear hi); (try clear ho0)) | ((with_reducible refine gate_dst (N := 74) rfl ?_); (try (refine gate_guard (by rfl) ?_; dsimp only)); refine Kd.R_lit k31 _ 31 ?hg (N := 74) ?hd (xs := ([] : List (S31))) (inner := []) (ok := fun _ => True) (okp := fun _ => True) ?hr ?hp (fun _ hk => hk) trivial (Below.refl _ _) (Nat.le_refl _) (by simp) ?_; (case hd => rfl); (case hg => rfl); (case hr => first | (go_simp; done) | (go_simp; rfl)); (case hp => exact (Reps.none _ _)); intro v459 w52 ho53 hb hg_ hnew_; clear hg_ hnew_; (first | rw [← Ny458.out] at ho53 | (simp only [Int.reduceToNat] at ho53; rw [← Ny458.out] at ho53)); have n0_ := Aside0.mk (Kd.R_elder' (by (with_reducible repeat (first | apply Kd.R_alloc | apply Kd.R_drewN | apply Kd.R_drew)); exact HO457.out) (Kd.R_base ho53) hb); have n1_ := Aside0.mk (Kd.R_lower (Kd.R_new' ho53 (Kd.R_lt (by (with_reducible repeat (first | apply Kd.R_alloc | apply Kd.R_drewN | apply Kd.R_drew)); exact HO457.out))) (below_size (by repeat (first | (with_reducible first | exact HB.out | apply below_alloc | apply pw_below_drewN | apply below_drew1) | exact HB.out)))); have n2_ := Aside0.mk (below_step (by repeat (first | (with_reducible first | exact HB.out | apply below_alloc | apply pw_below_drewN | apply below_drew1) | exact HB.out)) hb); clear HO457; clear HB; have HO457 := n0_; have HO460 := n1_; have HB := n2_; clear n0_ n1_ n2_; clear hb ho53) | ((with_reducible refine gate_builtin (b := .append) (xs := #[.tmp 74, .tmp 75]) rfl ?_); (try (refine gate_guard (by rfl) ?_; dsimp only)); at_builtin; refine Kd.R_append_rows k31 (w0 := w) w.heap.size rfl (.tmp 74) (.tmp 75) 33 31 (.agg #[(.int .i64 0), (.int .i64 0), (.int .i64 0), (.int .i64 0), (.int .i64 0), (.string ⟨#[]⟩)]) 56 rfl Try.underlying33 info31 rfl (by decide) (by omega) v459 y458 l0 _ _ _ (fun k_ => some k_ ≠ (v456 : Value).ownBlock) (fun _ => False) rfl rfl ?aO ?aR (fun _ _ h => h) (fun _ h => h.elim) ?aF ?aB ?aS ?aL ?_; (case aR => repeat (first | exact (Kd.C_below HR0.out HB.out) | (with_reducible refine Kd.C_alloc ?_ _) | (with_reducible refine Kd.C_drewN ?_ _) | (with_reducible refine Kd.C_drew ?_))); (case aB => exact (by repeat (first | (with_reducible first | exact HB.out | apply below_alloc | apply pw_below_drewN | apply below_drew1) | exact HB.out))); (case aF => exact (fun k_ hk => Kd.fresh' (Kd.R_lt (by (with_reducible repeat (first | apply Kd.R_alloc | apply Kd.R_drewN | apply Kd.R_drew)); exact HO457.out)) k_ hk)); (case aO => exact (by (with_reducible repeat (first | apply Kd.R_alloc | apply Kd.R_drewN | apply Kd.R_drew)); exact Kd.R_mono HO460.out (fun _ hk => hk.2))); (case aS => exact (below_size (by repeat (first | (with_reducible first | exact HB.out | apply below_alloc | apply pw_below_drewN | apply below_drew1) | exact HB.out)))); (case aL => have := LMc32.out; omega); intro v462 w54 ho hb hg hat; rw [← Ny461.out] at ho; have n0_ := Aside0.mk (Kd.R_after (ok := (fun _ => True)) (by (with_reducible repeat (first | apply Kd.R_alloc | apply Kd.R_drewN | apply Kd.R_drew)); exact HO457.out) hg hat); have n1_ := Aside0.mk (hb); have n2_ := Aside0.mk (ho); clear HO457; clear HB; clear HO460; have HO457 := n0_; have HB := n1_; have HO463 := n2_; clear n0_ n1_ n2_; clear ho hb hg hat) | ((with_reducible refine gate_builtin (b := .append) (xs := #[.tmp 76, .tmp 77]) rfl ?_); (try (refine gate_guard (by rfl) ?_; dsimp only)); at_builtin; refine Kd.R_append_rows k31 (w0 := w) w.heap.size rfl (.tmp 76) (.tmp 77) 33 31 (.agg #[(.int .i64 0), (.int .i64 0), (.int .i64 0), (.int .i64 0), (.int .i64 0), (.string ⟨#[]⟩)]) 56 rfl Try.underlying33 info31 rfl (by decide) (by omega) v462 y461 l1 _ _ _ (fun k_ => some k_ ≠ (v456 : Value).ownBlock) (fun _ => False) rfl rfl ?aO ?aR (fun _ _ h => h) (fun _ h => h.elim) ?aF ?aB ?aS ?aL ?_; (case aR => repeat (first | exact (Kd.C_below HR1.out HB.out) | (with_reducible refine Kd.C_alloc ?_ _) | (with_reducible refine Kd.C_drewN ?_ _) | (with_reducible refine Kd.C_drew ?_))); (case aB => exact (by repeat (first | (with_reducible first | exact HB.out | apply below_alloc | apply pw_below_drewN | apply below_drew1) | exact HB.out))); (case aF => exact (fun k_ hk => Kd.fresh' (Kd.R_lt (by (with_reducible repeat (first | apply Kd.R_alloc | apply Kd.R_drewN | apply Kd.R_drew)); exact HO457.out)) k_ hk)); (case aO => exact (by (with_reducible repeat (first | apply Kd.R_alloc | apply Kd.R_drewN | apply Kd.R_drew)); exact HO463.out)); (case aS => exact (below_size (by repeat (first | (with_reducible first | exact HB.out | apply below_alloc | apply pw_below_drewN | apply below_drew1) | exact HB.out)))); (case aL => have := LMc33.out; omega); intro v465 w55 ho hb hg hat; rw [← Ny464.out] at ho; have n0_ := Aside0.mk (Kd.R_after (ok := (fun _ => True)) (by (with_reducible repeat (first | apply Kd.R_alloc | apply Kd.R_drewN | apply Kd.R_drew)); exact HO457.out) hg hat); have n1_ := Aside0.mk (hb); have n2_ := Aside0.mk (ho); clear HO457; clear HB; clear HO463; have HO457 := n0_; have HB := n1_; have HO466 := n2_; clear n0_ n1_ n2_; clear ho hb hg hat; obtain ⟨Ao56, co56, eo56⟩ := Kd.R_slice HO457.out; subst eo56; obtain ⟨Ao57, co57, eo57⟩ := Kd.R_slice HO466.out; subst eo57) | (go_at_call 26; (with_reducible refine (partitaref15_Same.calls kj14 _ _ t453 _ _ y464 false _ ?side1 ?side2 ?side3 ?side4 A34.out).mono ?_); (case side1 => repeat (first | exact (Kd.R_reads' HO457.out).2.2 | (with_reducible refine Kd.C_alloc ?_ _) | (with_reducible refine Kd.C_drewN ?_ _) | (with_reducible refine Kd.C_drew ?_))); (case side2 => exact (Kd.R_reads' HO457.out).2.1); (case side3 => repeat (first | exact (Kd.R_reads' HO466.out).2.2 | (with_reducible refine Kd.C_alloc ?_ _) | (with_reducible refine Kd.C_drewN ?_ _) | (with_reducible refine Kd.C_drew ?_))); (case side4 => exact (Kd.R_reads' HO466.out).2.1); rintro e w' ⟨rfl, ⟨nd, rfl⟩⟩))
                                go_ret
                                exact ⟨by first | rfl | (simp [errW_none, errW_some] <;> rfl) | (simp [*, errW_none, errW_some] <;> rfl), by repeat (first | (with_reducible first | exact HB.out | apply below_alloc | apply pw_below_drewN | apply below_drew1) | exact HB.out)⟩
                            · rw [if_neg c33] at H
                              exact absurd H (by simp)
                          · rw [if_neg c32] at H
                            exact absurd H (by simp)
                        · rw [if_neg c31] at H
                          have c31b0 : (t455 == 0) = false := beq_eq_false_iff_ne.mpr c31
                          have c31b1 : (t455 != 0) = true := bne_iff_ne.mpr c31
                          obtain rfl := Option.some.inj H
                          go_wp2_with (first | ((with_reducible refine gate_callee (f := 24) rfl ?_); refine goesL_ (some 59) rfl rfl Try.func24 (by kernel_rfl) rfl #[.string (t438 ++ t440)] rfl (by (try simp only [List.map_toArray, List.map_cons, List.map_nil]); first | done | rfl | (simp only [List.length_drop, List.length_take]; rfl)) ?_; (with_reducible refine (wire_Decode.calls kj14 (t438 ++ t440) t453 t454 t455 _ A28.out).mono ?_); rintro e w58 ⟨v456, rfl, ho0, hb⟩; refine ⟨_, rfl, ?_⟩; have n0_ := Aside0.mk (Kd.R_lower ho0 (below_size (by repeat (first | (with_reducible first | exact HB.out | apply below_alloc | apply pw_below_drewN | apply below_drew1) | exact HB.out)))); have n1_ := Aside0.mk (below_step (by repeat (first | (with_reducible first | exact HB.out | apply below_alloc | apply pw_below_drewN | apply below_drew1) | exact HB.out)) hb); clear HB; have HO457 := n0_; have HB := n1_; clear n0_ n1_; (try clear hb); (try clear hb2); (try clear hk); (try clear hi); (try clear ho0)))
                          go_ret
                          exact ⟨by first | rfl | (simp [errW_none, errW_some] <;> rfl) | (simp [*, errW_none, errW_some] <;> rfl), by repeat (first | (with_reducible first | exact HB.out | apply below_alloc | apply pw_below_drewN | apply below_drew1) | exact HB.out)⟩
                      · rw [if_neg c30] at H
                        have c30b0 : (t452 == 0) = false := beq_eq_false_iff_ne.mpr c30
                        have c30b1 : (t452 != 0) = true := bne_iff_ne.mpr c30
                        obtain rfl := Option.some.inj H
                        go_wp2_with (first | ((with_reducible refine gate_callee (f := 24) rfl ?_); refine goesL_ (some 59) rfl rfl Try.func24 (by kernel_rfl) rfl #[.string (t438 ++ t440)] rfl (by (try simp only [List.map_toArray, List.map_cons, List.map_nil]); first | done | rfl | (simp only [List.length_drop, List.length_take]; rfl)) ?_; (with_reducible refine (wire_Decode.calls kj14 (t438 ++ t440) t453 t454 t455 _ A28.out).mono ?_); rintro e w59 ⟨v456, rfl, ho0, hb⟩; refine ⟨_, rfl, ?_⟩; have n0_ := Aside0.mk (Kd.R_lower ho0 (below_size (by repeat (first | (with_reducible first | exact HB.out | apply below_alloc | apply pw_below_drewN | apply below_drew1) | exact HB.out)))); have n1_ := Aside0.mk (below_step (by repeat (first | (with_reducible first | exact HB.out | apply below_alloc | apply pw_below_drewN | apply below_drew1) | exact HB.out)) hb); clear HB; have HO457 := n0_; have HB := n1_; clear n0_ n1_; (try clear hb); (try clear hb2); (try clear hk); (try clear hi); (try clear ho0)))
                        go_ret
                        exact ⟨by first | rfl | (simp [errW_none, errW_some] <;> rfl) | (simp [*, errW_none, errW_some] <;> rfl), by repeat (first | (with_reducible first | exact HB.out | apply below_alloc | apply pw_below_drewN | apply below_drew1) | exact HB.out)⟩
                    · replace c29 := Bool.eq_false_iff.mpr c29
                      subst c29
                      have H1 : (some false) = some r := by rw [if_neg (show ¬ (false = true) by decide)] at H; exact H
                      clear H
                      have H := H1
                      clear H1
                      obtain rfl := Option.some.inj H
                      go_wp2_with (first | ((with_reducible refine gate_callee (f := 24) rfl ?_); refine goesL_ (some 59) rfl rfl Try.func24 (by kernel_rfl) rfl #[.string (t438 ++ t440)] rfl (by (try simp only [List.map_toArray, List.map_cons, List.map_nil]); first | done | rfl | (simp only [List.length_drop, List.length_take]; rfl)) ?_; (with_reducible refine (wire_Decode.calls kj14 (t438 ++ t440) t453 t454 t455 _ A28.out).mono ?_); rintro e w60 ⟨v456, rfl, ho0, hb⟩; refine ⟨_, rfl, ?_⟩; have n0_ := Aside0.mk (Kd.R_lower ho0 (below_size (by repeat (first | (with_reducible first | exact HB.out | apply below_alloc | apply pw_below_drewN | apply below_drew1) | exact HB.out)))); have n1_ := Aside0.mk (below_step (by repeat (first | (with_reducible first | exact HB.out | apply below_alloc | apply pw_below_drewN | apply below_drew1) | exact HB.out)) hb); clear HB; have HO457 := n0_; have HB := n1_; clear n0_ n1_; (try clear hb); (try clear hb2); (try clear hk); (try clear hi); (try clear ho0)))
                      go_ret
                      exact ⟨by first | rfl | (simp [errW_none, errW_some] <;> rfl) | (simp [*, errW_none, errW_some] <;> rfl), by repeat (first | (with_reducible first | exact HB.out | apply below_alloc | apply pw_below_drewN | apply below_drew1) | exact HB.out)⟩
                  · rw [if_neg c27] at H
                    exact absurd H (by simp)
          · rw [if_neg c13] at H
            exact absurd H (by simp)
        · rw [if_neg c12] at H
          exact absurd H (by simp)


end Go.Proofs.Ytmeefdaanjaoaaa.M
