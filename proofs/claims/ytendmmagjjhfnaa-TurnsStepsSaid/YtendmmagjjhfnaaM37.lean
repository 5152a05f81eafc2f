/- Printed by a program of this session (wip/tools), out of the translation: functions with the same answers as the Go code, and the contracts of the code. Lean checks it. -/
import Derived.Test.YtendmmagjjhfnaaM0
import Derived.Test.YtendmmagjjhfnaaM19
import Derived.Test.YtendmmagjjhfnaaM20
import Derived.Test.YtendmmagjjhfnaaM22
import Derived.Test.YtendmmagjjhfnaaM24
namespace Go.Proofs.Ytendmmagjjhfnaa.M
open Go.RowKit Go.Proofs.YtendmmagjjhfnaaW.PrintWords Go.Proofs.YtendmmagjjhfnaaW.PrintLast Go.Proofs.YtendmmagjjhfnaaW.PrintMore
attribute [local go_sem] max2_int min2_int max_two min_two max_three min_three max_four min_four   -- for this text's walks alone
set_option linter.unusedVariables false
set_option linter.unusedSimpArgs false

/-! ### partitalaw10_TurnsSteps: function 9 -/
mutual
def partitalaw10_TurnsSteps.j0 : Nat → Bool → List (S38) → List Int → Int → List Int → Bool → Option (Bool)
  | 0, _, _, _, _, _, _ => none
  | k + 1, x3, x4, x5, x6, x7, x39 => if x39 = true then (some false) else (partitalaw10_TurnsSteps.l0 k x3 x4 x5 x6 x7 (-1) 0)
def partitalaw10_TurnsSteps.l0 : Nat → Bool → List (S38) → List Int → Int → List Int → Int → Int → Option (Bool)
  | 0, _, _, _, _, _, _, _ => none
  | k + 1, x3, x4, x5, x6, x7, x9, x10 => if x10 < (x5.length : Int) then (if 0 ≤ x10 then (if (rd x5 x10) < 0 then (partitalaw10_TurnsSteps.j2 k x3 x4 x5 x6 x7 x9 x10 (rd x5 x10) true) else (if (rd x5 x10) ≥ (x4.length : Int) then (partitalaw10_TurnsSteps.j2 k x3 x4 x5 x6 x7 x9 x10 (rd x5 x10) true) else (if x10 < (x7.length : Int) then (if (rd x7 x10) < 1 then (partitalaw10_TurnsSteps.j2 k x3 x4 x5 x6 x7 x9 x10 (rd x5 x10) true) else (partitalaw10_TurnsSteps.j2 k x3 x4 x5 x6 x7 x9 x10 (rd x5 x10) (decide ((rd x7 x10) > 9)))) else (none)))) else (none)) else (if x3 = true then (if x6 = 0 then (some true) else (if x6 = 101 then (some ((x5.length : Int) == 0)) else (some false))) else (some false))
def partitalaw10_TurnsSteps.j2 : Nat → Bool → List (S38) → List Int → Int → List Int → Int → Int → Int → Bool → Option (Bool)
  | 0, _, _, _, _, _, _, _, _, _ => none
  | k + 1, x3, x4, x5, x6, x7, x9, x10, x11, x71 => if x71 = true then (some false) else (if x11 ≤ x9 then (if 0 ≤ x9 then (if x9 < (x4.length : Int) then (partitalaw10_TurnsSteps.j3 k x3 x4 x5 x6 x7 x9 x10 x11 (decide (((rd_T38 x4 x9).f1) < 2))) else (none)) else (none)) else (partitalaw10_TurnsSteps.j3 k x3 x4 x5 x6 x7 x9 x10 x11 false))
def partitalaw10_TurnsSteps.j3 : Nat → Bool → List (S38) → List Int → Int → List Int → Int → Int → Int → Bool → Option (Bool)
  | 0, _, _, _, _, _, _, _, _, _ => none
  | k + 1, x3, x4, x5, x6, x7, x9, x10, x11, x82 => if x82 = true then (some false) else (partitalaw10_TurnsSteps.l1 k x3 x4 x5 x6 x7 x10 x11 (wrap64 (x9 + 1)))
def partitalaw10_TurnsSteps.l1 : Nat → Bool → List (S38) → List Int → Int → List Int → Int → Int → Int → Option (Bool)
  | 0, _, _, _, _, _, _, _, _ => none
  | k + 1, x3, x4, x5, x6, x7, x10, x11, x12 => if x12 < x11 then (if 0 ≤ x12 then (if x12 < (x4.length : Int) then (if (((rd_T38 x4 x12).f2).length : Int) = 0 then (some false) else (partitalaw10_TurnsSteps.l1 k x3 x4 x5 x6 x7 x10 x11 (wrap64 (x12 + 1)))) else (none)) else (none)) else (if 0 ≤ x11 then (if x11 < (x4.length : Int) then (partitalaw10_TurnsSteps.l2 k x3 x4 x5 x6 x7 x10 x11 ((((rd_T38 x4 x11).f2).length : Int) == 0) 0) else (none)) else (none))
def partitalaw10_TurnsSteps.l2 : Nat → Bool → List (S38) → List Int → Int → List Int → Int → Int → Bool → Int → Option (Bool)
  | 0, _, _, _, _, _, _, _, _, _ => none
  | k + 1, x3, x4, x5, x6, x7, x10, x11, x13, x14 => if 0 ≤ x11 then (if x11 < (x4.length : Int) then (if x14 < (((rd_T38 x4 x11).f2).length : Int) then (if x13 = true then (partitalaw10_TurnsSteps.l2 k x3 x4 x5 x6 x7 x10 x11 true (wrap64 (x14 + 1))) else (if 0 ≤ x14 then (if 0 ≤ x10 then (if x10 < (x7.length : Int) then (partitalaw10_TurnsSteps.l2 k x3 x4 x5 x6 x7 x10 x11 ((rd ((rd_T38 x4 x11).f2) x14) == (rd x7 x10)) (wrap64 (x14 + 1))) else (none)) else (none)) else (none))) else (if x13 = true then (partitalaw10_TurnsSteps.l0 k x3 x4 x5 x6 x7 x11 (wrap64 (x10 + 1))) else (some false))) else (none)) else (none)
end
def partitalaw10_TurnsSteps.f (k : Nat) (l0 : List (S46)) : Option (Bool) := (partitalaw10_examples.f k).bind fun t425 => (if t425 = true then ((partitalaw10_Made.f k l0 0 0 0 0).bind fun t426 => ((turns_Unfold.f k t426).bind fun bt429 => ((turns_Passes.f k t426).bind fun bt433 => (if bt429.2 = bt433.2 then (partitalaw10_TurnsSteps.j0 k t425 t426 bt429.1 bt429.2 bt433.1 ((bt429.1.length : Int) != (bt433.1.length : Int))) else (partitalaw10_TurnsSteps.j0 k t425 t426 bt429.1 bt429.2 bt433.1 true))))) else (some false))
theorem partitalaw10_TurnsSteps.mono_l : ∀ k, (∀ y0 y1 y2 y3 y4 y5, LeO (partitalaw10_TurnsSteps.j0 k y0 y1 y2 y3 y4 y5) (partitalaw10_TurnsSteps.j0 (k + 1) y0 y1 y2 y3 y4 y5)) ∧ (∀ y0 y1 y2 y3 y4 y5 y6, LeO (partitalaw10_TurnsSteps.l0 k y0 y1 y2 y3 y4 y5 y6) (partitalaw10_TurnsSteps.l0 (k + 1) y0 y1 y2 y3 y4 y5 y6)) ∧ (∀ y0 y1 y2 y3 y4 y5 y6 y7 y8, LeO (partitalaw10_TurnsSteps.j2 k y0 y1 y2 y3 y4 y5 y6 y7 y8) (partitalaw10_TurnsSteps.j2 (k + 1) y0 y1 y2 y3 y4 y5 y6 y7 y8)) ∧ (∀ y0 y1 y2 y3 y4 y5 y6 y7 y8, LeO (partitalaw10_TurnsSteps.j3 k y0 y1 y2 y3 y4 y5 y6 y7 y8) (partitalaw10_TurnsSteps.j3 (k + 1) y0 y1 y2 y3 y4 y5 y6 y7 y8)) ∧ (∀ y0 y1 y2 y3 y4 y5 y6 y7, LeO (partitalaw10_TurnsSteps.l1 k y0 y1 y2 y3 y4 y5 y6 y7) (partitalaw10_TurnsSteps.l1 (k + 1) y0 y1 y2 y3 y4 y5 y6 y7)) ∧ (∀ y0 y1 y2 y3 y4 y5 y6 y7 y8, LeO (partitalaw10_TurnsSteps.l2 k y0 y1 y2 y3 y4 y5 y6 y7 y8) (partitalaw10_TurnsSteps.l2 (k + 1) y0 y1 y2 y3 y4 y5 y6 y7 y8))
  | 0 => ⟨fun _ _ _ _ _ _ r h => by simp [partitalaw10_TurnsSteps.j0] at h, fun _ _ _ _ _ _ _ r h => by simp [partitalaw10_TurnsSteps.l0] at h, fun _ _ _ _ _ _ _ _ _ r h => by simp [partitalaw10_TurnsSteps.j2] at h, fun _ _ _ _ _ _ _ _ _ r h => by simp [partitalaw10_TurnsSteps.j3] at h, fun _ _ _ _ _ _ _ _ r h => by simp [partitalaw10_TurnsSteps.l1] at h, fun _ _ _ _ _ _ _ _ _ r h => by simp [partitalaw10_TurnsSteps.l2] at h⟩
  | k + 1 => by
    obtain ⟨ih0, ih1, ih2, ih3, ih4, ih5⟩ := partitalaw10_TurnsSteps.mono_l k
    refine ⟨?_, ?_, ?_, ?_, ?_, ?_⟩
    · intro y0 y1 y2 y3 y4 y5
      unfold partitalaw10_TurnsSteps.j0
      repeat' first
      | (with_reducible exact ih0 _ _ _ _ _ _)
      | (with_reducible exact ih1 _ _ _ _ _ _ _)
      | (with_reducible exact ih2 _ _ _ _ _ _ _ _ _)
      | (with_reducible exact ih3 _ _ _ _ _ _ _ _ _)
      | (with_reducible exact ih4 _ _ _ _ _ _ _ _)
      | (with_reducible exact ih5 _ _ _ _ _ _ _ _ _)
      | (with_reducible exact partitalaw10_Made.mono _ _ _ _ _ _)
      | (with_reducible exact partitalaw10_examples.mono _)
      | (with_reducible exact turns_Passes.mono _ _)
      | (with_reducible exact turns_Unfold.mono _ _)
      | (with_reducible exact LeO.refl _)
      | (with_reducible exact LeO.none _)
      | (with_reducible refine LeO.ite ?_ ?_)
      | (with_reducible refine LeO.bind ?_ (fun _ => ?_))
      | exact ih0 _ _ _ _ _ _
      | exact ih1 _ _ _ _ _ _ _
      | exact ih2 _ _ _ _ _ _ _ _ _
      | exact ih3 _ _ _ _ _ _ _ _ _
      | exact ih4 _ _ _ _ _ _ _ _
      | exact ih5 _ _ _ _ _ _ _ _ _
      | exact partitalaw10_Made.mono _ _ _ _ _ _
      | exact partitalaw10_examples.mono _
      | exact turns_Passes.mono _ _
      | exact turns_Unfold.mono _ _
      | exact LeO.none _
      | refine LeO.ite ?_ ?_
      | refine LeO.bind ?_ (fun _ => ?_)
    · intro y0 y1 y2 y3 y4 y5 y6
      unfold partitalaw10_TurnsSteps.l0
      repeat' first
      | (with_reducible exact ih0 _ _ _ _ _ _)
      | (with_reducible exact ih1 _ _ _ _ _ _ _)
      | (with_reducible exact ih2 _ _ _ _ _ _ _ _ _)
      | (with_reducible exact ih3 _ _ _ _ _ _ _ _ _)
      | (with_reducible exact ih4 _ _ _ _ _ _ _ _)
      | (with_reducible exact ih5 _ _ _ _ _ _ _ _ _)
      | (with_reducible exact partitalaw10_Made.mono _ _ _ _ _ _)
      | (with_reducible exact partitalaw10_examples.mono _)
      | (with_reducible exact turns_Passes.mono _ _)
      | (with_reducible exact turns_Unfold.mono _ _)
      | (with_reducible exact LeO.refl _)
      | (with_reducible exact LeO.none _)
      | (with_reducible refine LeO.ite ?_ ?_)
      | (with_reducible refine LeO.bind ?_ (fun _ => ?_))
      | exact ih0 _ _ _ _ _ _
      | exact ih1 _ _ _ _ _ _ _
      | exact ih2 _ _ _ _ _ _ _ _ _
      | exact ih3 _ _ _ _ _ _ _ _ _
      | exact ih4 _ _ _ _ _ _ _ _
      | exact ih5 _ _ _ _ _ _ _ _ _
      | exact partitalaw10_Made.mono _ _ _ _ _ _
      | exact partitalaw10_examples.mono _
      | exact turns_Passes.mono _ _
      | exact turns_Unfold.mono _ _
      | exact LeO.none _
      | refine LeO.ite ?_ ?_
      | refine LeO.bind ?_ (fun _ => ?_)
    · intro y0 y1 y2 y3 y4 y5 y6 y7 y8
      unfold partitalaw10_TurnsSteps.j2
      repeat' first
      | (with_reducible exact ih0 _ _ _ _ _ _)
      | (with_reducible exact ih1 _ _ _ _ _ _ _)
      | (with_reducible exact ih2 _ _ _ _ _ _ _ _ _)
      | (with_reducible exact ih3 _ _ _ _ _ _ _ _ _)
      | (with_reducible exact ih4 _ _ _ _ _ _ _ _)
      | (with_reducible exact ih5 _ _ _ _ _ _ _ _ _)
      | (with_reducible exact partitalaw10_Made.mono _ _ _ _ _ _)
      | (with_reducible exact partitalaw10_examples.mono _)
      | (with_reducible exact turns_Passes.mono _ _)
      | (with_reducible exact turns_Unfold.mono _ _)
      | (with_reducible exact LeO.refl _)
      | (with_reducible exact LeO.none _)
      | (with_reducible refine LeO.ite ?_ ?_)
      | (with_reducible refine LeO.bind ?_ (fun _ => ?_))
      | exact ih0 _ _ _ _ _ _
      | exact ih1 _ _ _ _ _ _ _
      | exact ih2 _ _ _ _ _ _ _ _ _
      | exact ih3 _ _ _ _ _ _ _ _ _
      | exact ih4 _ _ _ _ _ _ _ _
      | exact ih5 _ _ _ _ _ _ _ _ _
      | exact partitalaw10_Made.mono _ _ _ _ _ _
      | exact partitalaw10_examples.mono _
      | exact turns_Passes.mono _ _
      | exact turns_Unfold.mono _ _
      | exact LeO.none _
      | refine LeO.ite ?_ ?_
      | refine LeO.bind ?_ (fun _ => ?_)
    · intro y0 y1 y2 y3 y4 y5 y6 y7 y8
      unfold partitalaw10_TurnsSteps.j3
      repeat' first
      | (with_reducible exact ih0 _ _ _ _ _ _)
      | (with_reducible exact ih1 _ _ _ _ _ _ _)
      | (with_reducible exact ih2 _ _ _ _ _ _ _ _ _)
      | (with_reducible exact ih3 _ _ _ _ _ _ _ _ _)
      | (with_reducible exact ih4 _ _ _ _ _ _ _ _)
      | (with_reducible exact ih5 _ _ _ _ _ _ _ _ _)
      | (with_reducible exact partitalaw10_Made.mono _ _ _ _ _ _)
      | (with_reducible exact partitalaw10_examples.mono _)
      | (with_reducible exact turns_Passes.mono _ _)
      | (with_reducible exact turns_Unfold.mono _ _)
      | (with_reducible exact LeO.refl _)
      | (with_reducible exact LeO.none _)
      | (with_reducible refine LeO.ite ?_ ?_)
      | (with_reducible refine LeO.bind ?_ (fun _ => ?_))
      | exact ih0 _ _ _ _ _ _
      | exact ih1 _ _ _ _ _ _ _
      | exact ih2 _ _ _ _ _ _ _ _ _
      | exact ih3 _ _ _ _ _ _ _ _ _
      | exact ih4 _ _ _ _ _ _ _ _
      | exact ih5 _ _ _ _ _ _ _ _ _
      | exact partitalaw10_Made.mono _ _ _ _ _ _
      | exact partitalaw10_examples.mono _
      | exact turns_Passes.mono _ _
      | exact turns_Unfold.mono _ _
      | exact LeO.none _
      | refine LeO.ite ?_ ?_
      | refine LeO.bind ?_ (fun _ => ?_)
    · intro y0 y1 y2 y3 y4 y5 y6 y7
      unfold partitalaw10_TurnsSteps.l1
      repeat' first
      | (with_reducible exact ih0 _ _ _ _ _ _)
      | (with_reducible exact ih1 _ _ _ _ _ _ _)
      | (with_reducible exact ih2 _ _ _ _ _ _ _ _ _)
      | (with_reducible exact ih3 _ _ _ _ _ _ _ _ _)
      | (with_reducible exact ih4 _ _ _ _ _ _ _ _)
      | (with_reducible exact ih5 _ _ _ _ _ _ _ _ _)
      | (with_reducible exact partitalaw10_Made.mono _ _ _ _ _ _)
      | (with_reducible exact partitalaw10_examples.mono _)
      | (with_reducible exact turns_Passes.mono _ _)
      | (with_reducible exact turns_Unfold.mono _ _)
      | (with_reducible exact LeO.refl _)
      | (with_reducible exact LeO.none _)
      | (with_reducible refine LeO.ite ?_ ?_)
      | (with_reducible refine LeO.bind ?_ (fun _ => ?_))
      | exact ih0 _ _ _ _ _ _
      | exact ih1 _ _ _ _ _ _ _
      | exact ih2 _ _ _ _ _ _ _ _ _
      | exact ih3 _ _ _ _ _ _ _ _ _
      | exact ih4 _ _ _ _ _ _ _ _
      | exact ih5 _ _ _ _ _ _ _ _ _
      | exact partitalaw10_Made.mono _ _ _ _ _ _
      | exact partitalaw10_examples.mono _
      | exact turns_Passes.mono _ _
      | exact turns_Unfold.mono _ _
      | exact LeO.none _
      | refine LeO.ite ?_ ?_
      | refine LeO.bind ?_ (fun _ => ?_)
    · intro y0 y1 y2 y3 y4 y5 y6 y7 y8
      unfold partitalaw10_TurnsSteps.l2
      repeat' first
      | (with_reducible exact ih0 _ _ _ _ _ _)
      | (with_reducible exact ih1 _ _ _ _ _ _ _)
      | (with_reducible exact ih2 _ _ _ _ _ _ _ _ _)
      | (with_reducible exact ih3 _ _ _ _ _ _ _ _ _)
      | (with_reducible exact ih4 _ _ _ _ _ _ _ _)
      | (with_reducible exact ih5 _ _ _ _ _ _ _ _ _)
      | (with_reducible exact partitalaw10_Made.mono _ _ _ _ _ _)
      | (with_reducible exact partitalaw10_examples.mono _)
      | (with_reducible exact turns_Passes.mono _ _)
      | (with_reducible exact turns_Unfold.mono _ _)
      | (with_reducible exact LeO.refl _)
      | (with_reducible exact LeO.none _)
      | (with_reducible refine LeO.ite ?_ ?_)
      | (with_reducible refine LeO.bind ?_ (fun _ => ?_))
      | exact ih0 _ _ _ _ _ _
      | exact ih1 _ _ _ _ _ _ _
      | exact ih2 _ _ _ _ _ _ _ _ _
      | exact ih3 _ _ _ _ _ _ _ _ _
      | exact ih4 _ _ _ _ _ _ _ _
      | exact ih5 _ _ _ _ _ _ _ _ _
      | exact partitalaw10_Made.mono _ _ _ _ _ _
      | exact partitalaw10_examples.mono _
      | exact turns_Passes.mono _ _
      | exact turns_Unfold.mono _ _
      | exact LeO.none _
      | refine LeO.ite ?_ ?_
      | refine LeO.bind ?_ (fun _ => ?_)
theorem partitalaw10_TurnsSteps.mono : ∀ a0 k, LeO (partitalaw10_TurnsSteps.f k a0) (partitalaw10_TurnsSteps.f (k + 1) a0) := by
  intro a0 k
  obtain ⟨ih0, ih1, ih2, ih3, ih4, ih5⟩ := partitalaw10_TurnsSteps.mono_l k
  unfold partitalaw10_TurnsSteps.f
  repeat' first
      | (with_reducible exact ih0 _ _ _ _ _ _)
      | (with_reducible exact ih1 _ _ _ _ _ _ _)
      | (with_reducible exact ih2 _ _ _ _ _ _ _ _ _)
      | (with_reducible exact ih3 _ _ _ _ _ _ _ _ _)
      | (with_reducible exact ih4 _ _ _ _ _ _ _ _)
      | (with_reducible exact ih5 _ _ _ _ _ _ _ _ _)
      | (with_reducible exact partitalaw10_Made.mono _ _ _ _ _ _)
      | (with_reducible exact partitalaw10_examples.mono _)
      | (with_reducible exact turns_Passes.mono _ _)
      | (with_reducible exact turns_Unfold.mono _ _)
      | (with_reducible exact LeO.refl _)
      | (with_reducible exact LeO.none _)
      | (with_reducible refine LeO.ite ?_ ?_)
      | (with_reducible refine LeO.bind ?_ (fun _ => ?_))
      | exact ih0 _ _ _ _ _ _
      | exact ih1 _ _ _ _ _ _ _
      | exact ih2 _ _ _ _ _ _ _ _ _
      | exact ih3 _ _ _ _ _ _ _ _ _
      | exact ih4 _ _ _ _ _ _ _ _
      | exact ih5 _ _ _ _ _ _ _ _ _
      | exact partitalaw10_Made.mono _ _ _ _ _ _
      | exact partitalaw10_examples.mono _
      | exact turns_Passes.mono _ _
      | exact turns_Unfold.mono _ _
      | exact LeO.none _
      | refine LeO.ite ?_ ?_
      | refine LeO.bind ?_ (fun _ => ?_)
set_option maxHeartbeats 8000000 in
set_option maxRecDepth 100000 in
theorem partitalaw10_TurnsSteps.calls (k : Nat) (A0 : Option Addr) (c0 : Nat) (l0 : List (S46)) (r : Bool) (w : World) (hr0 : Kd.C k46 w A0 l0.length l0) (hc0 : l0.length ≤ c0) (h : partitalaw10_TurnsSteps.f k l0 = some r) :
    Calls Try.prog 9 #[.slice A0 l0.length c0] w fun e w' => e = .returned (.bool r) ∧ Below w.heap.size w w' := by
  have HR0 := Aside0.mk hr0
  have HC0 := Aside0.mk hc0
  clear hr0 hc0
  have HB := Aside0.mk (Below.refl w.heap.size w)
  have H : ((partitalaw10_examples.f k).bind fun t425 => (if t425 = true then ((partitalaw10_Made.f k l0 0 0 0 0).bind fun t426 => ((turns_Unfold.f k t426).bind fun bt429 => ((turns_Passes.f k t426).bind fun bt433 => (if bt429.2 = bt433.2 then (partitalaw10_TurnsSteps.j0 k t425 t426 bt429.1 bt429.2 bt433.1 ((bt429.1.length : Int) != (bt433.1.length : Int))) else (partitalaw10_TurnsSteps.j0 k t425 t426 bt429.1 bt429.2 bt433.1 true))))) else (some false))) = some r := h
  clear h
  replace H := Option.bind_eq_some_iff.mp H
  obtain ⟨t425, A20, H⟩ := H
  replace H : (if t425 = true then ((partitalaw10_Made.f k l0 0 0 0 0).bind fun t426 => ((turns_Unfold.f k t426).bind fun bt429 => ((turns_Passes.f k t426).bind fun bt433 => (if bt429.2 = bt433.2 then (partitalaw10_TurnsSteps.j0 k t425 t426 bt429.1 bt429.2 bt433.1 ((bt429.1.length : Int) != (bt433.1.length : Int))) else (partitalaw10_TurnsSteps.j0 k t425 t426 bt429.1 bt429.2 bt433.1 true))))) else (some false)) = some r := H
  have A2 := Aside0.mk A20
  clear A20
  by_cases c3 : t425 = true
  · subst c3
    have H1 : ((partitalaw10_Made.f k l0 0 0 0 0).bind fun t426 => ((turns_Unfold.f k t426).bind fun bt429 => ((turns_Passes.f k t426).bind fun bt433 => (if bt429.2 = bt433.2 then (partitalaw10_TurnsSteps.j0 k true t426 bt429.1 bt429.2 bt433.1 ((bt429.1.length : Int) != (bt433.1.length : Int))) else (partitalaw10_TurnsSteps.j0 k true t426 bt429.1 bt429.2 bt433.1 true))))) = some r := by rw [if_pos rfl] at H; exact H
    clear H
    have H := H1
    clear H1
    replace H := Option.bind_eq_some_iff.mp H
    obtain ⟨t426, A40, H⟩ := H
    replace H : ((turns_Unfold.f k t426).bind fun bt429 => ((turns_Passes.f k t426).bind fun bt433 => (if bt429.2 = bt433.2 then (partitalaw10_TurnsSteps.j0 k true t426 bt429.1 bt429.2 bt433.1 ((bt429.1.length : Int) != (bt433.1.length : Int))) else (partitalaw10_TurnsSteps.j0 k true t426 bt429.1 bt429.2 bt433.1 true)))) = some r := H
    have A4 := Aside0.mk A40
    clear A40
    replace H := Option.bind_eq_some_iff.mp H
    obtain ⟨⟨t429, t430⟩, A50, H⟩ := H
    replace H : ((turns_Passes.f k t426).bind fun bt433 => (if t430 = bt433.2 then (partitalaw10_TurnsSteps.j0 k true t426 t429 t430 bt433.1 ((t429.length : Int) != (bt433.1.length : Int))) else (partitalaw10_TurnsSteps.j0 k true t426 t429 t430 bt433.1 true))) = some r := H
    have A5 := Aside0.mk A50
    clear A50
    replace H := Option.bind_eq_some_iff.mp H
    obtain ⟨⟨t433, t434⟩, A60, H⟩ := H
    replace H : (if t430 = t434 then (partitalaw10_TurnsSteps.j0 k true t426 t429 t430 t433 ((t429.length : Int) != (t433.length : Int))) else (partitalaw10_TurnsSteps.j0 k true t426 t429 t430 t433 true)) = some r := H
    have A6 := Aside0.mk A60
    clear A60
    have HC7 := Aside0.mk H
    clear H
    go_enter Try.func9, Try.ntmps9
    go_upto_region 7 with (first | (go_at_call 11; (with_reducible refine (partitalaw10_examples.calls k  true _ A2.out).mono ?_); rintro e w8 ⟨rfl, hb⟩; have n0_ := Aside0.mk (below_step (by repeat (first | (with_reducible first | exact HB.out | apply below_alloc | apply pw_below_drewN | apply below_drew1) | exact HB.out)) hb); clear HB; have HB := n0_; clear n0_; (try clear hb); (try clear hb2); (try clear hk); (try clear hi)) | (go_at_call 12; (with_reducible refine (partitalaw10_Made.calls k _ _ l0 0 0 0 0 t426 _ ?side1 ?side2 A4.out).mono ?_); (case side1 => repeat (first | exact (Kd.C_below HR0.out HB.out) | (with_reducible refine Kd.C_alloc ?_ _) | (with_reducible refine Kd.C_drewN ?_ _) | (with_reducible refine Kd.C_drew ?_))); (case side2 => exact HC0.out); rintro e w9 ⟨v427, rfl, ho0, hb⟩; have n0_ := Aside0.mk (Kd.S_lower ho0 (below_size (by repeat (first | (with_reducible first | exact HB.out | apply below_alloc | apply pw_below_drewN | apply below_drew1) | exact HB.out)))); have n1_ := Aside0.mk (below_step (by repeat (first | (with_reducible first | exact HB.out | apply below_alloc | apply pw_below_drewN | apply below_drew1) | exact HB.out)) hb); clear HB; have HO428 := n0_; have HB := n1_; clear n0_ n1_; (try clear hb); (try clear hb2); (try clear hk); (try clear hi); (try clear ho0); obtain ⟨Ao10, co10, eo10⟩ := Kd.S_slice HO428.out; subst eo10) | (go_at_call 15; (with_reducible refine (turns_Unfold.calls k _ _ t426 t429 t430 _ ?side1 ?side2 A5.out).mono ?_); (case side1 => repeat (first | exact (Kd.S_reads' HO428.out).2.2 | (with_reducible refine Kd.C_alloc ?_ _) | (with_reducible refine Kd.C_drewN ?_ _) | (with_reducible refine Kd.C_drew ?_))); (case side2 => exact (Kd.S_reads' HO428.out).2.1); rintro e w11 ⟨v431, rfl, ho0, hb⟩; have n0_ := Aside0.mk (Kd.S_elder' (by (with_reducible repeat (first | apply Kd.S_alloc | apply Kd.S_drewN | apply Kd.S_drew)); exact HO428.out) (Kd.R_base ho0) hb); have n1_ := Aside0.mk (Kd.R_lower ho0 (below_size (by repeat (first | (with_reducible first | exact HB.out | apply below_alloc | apply pw_below_drewN | apply below_drew1) | exact HB.out)))); have n2_ := Aside0.mk (below_step (by repeat (first | (with_reducible first | exact HB.out | apply below_alloc | apply pw_below_drewN | apply below_drew1) | exact HB.out)) hb); clear HO428; clear HB; have HO428 := n0_; have HO432 := n1_; have HB := n2_; clear n0_ n1_ n2_; (try clear hb); (try clear hb2); (try clear hk); (try clear hi); (try clear ho0)) | (go_at_call 17; (with_reducible refine (turns_Passes.calls k _ _ t426 t433 t434 _ ?side1 ?side2 A6.out).mono ?_); (case side1 => repeat (first | exact (Kd.S_reads' HO428.out).2.2 | (with_reducible refine Kd.C_alloc ?_ _) | (with_reducible refine Kd.C_drewN ?_ _) | (with_reducible refine Kd.C_drew ?_))); (case side2 => exact (Kd.S_reads' HO428.out).2.1); rintro e w12 ⟨v435, rfl, ho0, hb⟩; have n0_ := Aside0.mk (Kd.S_elder' (by (with_reducible repeat (first | apply Kd.S_alloc | apply Kd.S_drewN | apply Kd.S_drew)); exact HO428.out) (Kd.R_base ho0) hb); have n1_ := Aside0.mk (Kd.R_elder' (by (with_reducible repeat (first | apply Kd.R_alloc | apply Kd.R_drewN | apply Kd.R_drew)); exact HO432.out) (Kd.R_base ho0) hb); have n2_ := Aside0.mk (Kd.R_lower (Kd.R_new' ho0 (Kd.R_lt (by (with_reducible repeat (first | apply Kd.R_alloc | apply Kd.R_drewN | apply Kd.R_drew)); exact HO432.out))) (below_size (by repeat (first | (with_reducible first | exact HB.out | apply below_alloc | apply pw_below_drewN | apply below_drew1) | exact HB.out)))); have n3_ := Aside0.mk (below_step (by repeat (first | (with_reducible first | exact HB.out | apply below_alloc | apply pw_below_drewN | apply below_drew1) | exact HB.out)) hb); clear HO428; clear HO432; clear HB; have HO428 := n0_; have HO432 := n1_; have HO436 := n2_; have HB := n3_; clear n0_ n1_ n2_ n3_; (try clear hb); (try clear hb2); (try clear hk); (try clear hi); (try clear ho0)))
    repeat (go_quiet (first | (go_at_call 11; (with_reducible refine (partitalaw10_examples.calls k  true _ A2.out).mono ?_); rintro e w8 ⟨rfl, hb⟩; have n0_ := Aside0.mk (below_step (by repeat (first | (with_reducible first | exact HB.out | apply below_alloc | apply pw_below_drewN | apply below_drew1) | exact HB.out)) hb); clear HB; have HB := n0_; clear n0_; (try clear hb); (try clear hb2); (try clear hk); (try clear hi)) | (go_at_call 12; (with_reducible refine (partitalaw10_Made.calls k _ _ l0 0 0 0 0 t426 _ ?side1 ?side2 A4.out).mono ?_); (case side1 => repeat (first | exact (Kd.C_below HR0.out HB.out) | (with_reducible refine Kd.C_alloc ?_ _) | (with_reducible refine Kd.C_drewN ?_ _) | (with_reducible refine Kd.C_drew ?_))); (case side2 => exact HC0.out); rintro e w9 ⟨v427, rfl, ho0, hb⟩; have n0_ := Aside0.mk (Kd.S_lower ho0 (below_size (by repeat (first | (with_reducible first | exact HB.out | apply below_alloc | apply pw_below_drewN | apply below_drew1) | exact HB.out)))); have n1_ := Aside0.mk (below_step (by repeat (first | (with_reducible first | exact HB.out | apply below_alloc | apply pw_below_drewN | apply below_drew1) | exact HB.out)) hb); clear HB; have HO428 := n0_; have HB := n1_; clear n0_ n1_; (try clear hb); (try clear hb2); (try clear hk); (try clear hi); (try clear ho0); obtain ⟨Ao10, co10, eo10⟩ := Kd.S_slice HO428.out; subst eo10) | (go_at_call 15; (with_reducible refine (turns_Unfold.calls k _ _ t426 t429 t430 _ ?side1 ?side2 A5.out).mono ?_); (case side1 => repeat (first | exact (Kd.S_reads' HO428.out).2.2 | (with_reducible refine Kd.C_alloc ?_ _) | (with_reducible refine Kd.C_drewN ?_ _) | (with_reducible refine Kd.C_drew ?_))); (case side2 => exact (Kd.S_reads' HO428.out).2.1); rintro e w11 ⟨v431, rfl, ho0, hb⟩; have n0_ := Aside0.mk (Kd.S_elder' (by (with_reducible repeat (first | apply Kd.S_alloc | apply Kd.S_drewN | apply Kd.S_drew)); exact HO428.out) (Kd.R_base ho0) hb); have n1_ := Aside0.mk (Kd.R_lower ho0 (below_size (by repeat (first | (with_reducible first | exact HB.out | apply below_alloc | apply pw_below_drewN | apply below_drew1) | exact HB.out)))); have n2_ := Aside0.mk (below_step (by repeat (first | (with_reducible first | exact HB.out | apply below_alloc | apply pw_below_drewN | apply below_drew1) | exact HB.out)) hb); clear HO428; clear HB; have HO428 := n0_; have HO432 := n1_; have HB := n2_; clear n0_ n1_ n2_; (try clear hb); (try clear hb2); (try clear hk); (try clear hi); (try clear ho0)) | (go_at_call 17; (with_reducible refine (turns_Passes.calls k _ _ t426 t433 t434 _ ?side1 ?side2 A6.out).mono ?_); (case side1 => repeat (first | exact (Kd.S_reads' HO428.out).2.2 | (with_reducible refine Kd.C_alloc ?_ _) | (with_reducible refine Kd.C_drewN ?_ _) | (with_reducible refine Kd.C_drew ?_))); (case side2 => exact (Kd.S_reads' HO428.out).2.1); rintro e w12 ⟨v435, rfl, ho0, hb⟩; have n0_ := Aside0.mk (Kd.S_elder' (by (with_reducible repeat (first | apply Kd.S_alloc | apply Kd.S_drewN | apply Kd.S_drew)); exact HO428.out) (Kd.R_base ho0) hb); have n1_ := Aside0.mk (Kd.R_elder' (by (with_reducible repeat (first | apply Kd.R_alloc | apply Kd.R_drewN | apply Kd.R_drew)); exact HO432.out) (Kd.R_base ho0) hb); have n2_ := Aside0.mk (Kd.R_lower (Kd.R_new' ho0 (Kd.R_lt (by (with_reducible repeat (first | apply Kd.R_alloc | apply Kd.R_drewN | apply Kd.R_drew)); exact HO432.out))) (below_size (by repeat (first | (with_reducible first | exact HB.out | apply below_alloc | apply pw_below_drewN | apply below_drew1) | exact HB.out)))); have n3_ := Aside0.mk (below_step (by repeat (first | (with_reducible first | exact HB.out | apply below_alloc | apply pw_below_drewN | apply below_drew1) | exact HB.out)) hb); clear HO428; clear HO432; clear HB; have HO428 := n0_; have HO432 := n1_; have HO436 := n2_; have HB := n3_; clear n0_ n1_ n2_ n3_; (try clear hb); (try clear hb2); (try clear hk); (try clear hi); (try clear ho0))); go_upto_region 7 with (first | (go_at_call 11; (with_reducible refine (partitalaw10_examples.calls k  true _ A2.out).mono ?_); rintro e w8 ⟨rfl, hb⟩; have n0_ := Aside0.mk (below_step (by repeat (first | (with_reducible first | exact HB.out | apply below_alloc | apply pw_below_drewN | apply below_drew1) | exact HB.out)) hb); clear HB; have HB := n0_; clear n0_; (try clear hb); (try clear hb2); (try clear hk); (try clear hi)) | (go_at_call 12; (with_reducible refine (partitalaw10_Made.calls k _ _ l0 0 0 0 0 t426 _ ?side1 ?side2 A4.out).mono ?_); (case side1 => repeat (first | exact (Kd.C_below HR0.out HB.out) | (with_reducible refine Kd.C_alloc ?_ _) | (with_reducible refine Kd.C_drewN ?_ _) | (with_reducible refine Kd.C_drew ?_))); (case side2 => exact HC0.out); rintro e w9 ⟨v427, rfl, ho0, hb⟩; have n0_ := Aside0.mk (Kd.S_lower ho0 (below_size (by repeat (first | (with_reducible first | exact HB.out | apply below_alloc | apply pw_below_drewN | apply below_drew1) | exact HB.out)))); have n1_ := Aside0.mk (below_step (by repeat (first | (with_reducible first | exact HB.out | apply below_alloc | apply pw_below_drewN | apply below_drew1) | exact HB.out)) hb); clear HB; have HO428 := n0_; have HB := n1_; clear n0_ n1_; (try clear hb); (try clear hb2); (try clear hk); (try clear hi); (try clear ho0); obtain ⟨Ao10, co10, eo10⟩ := Kd.S_slice HO428.out; subst eo10) | (go_at_call 15; (with_reducible refine (turns_Unfold.calls k _ _ t426 t429 t430 _ ?side1 ?side2 A5.out).mono ?_); (case side1 => repeat (first | exact (Kd.S_reads' HO428.out).2.2 | (with_reducible refine Kd.C_alloc ?_ _) | (with_reducible refine Kd.C_drewN ?_ _) | (with_reducible refine Kd.C_drew ?_))); (case side2 => exact (Kd.S_reads' HO428.out).2.1); rintro e w11 ⟨v431, rfl, ho0, hb⟩; have n0_ := Aside0.mk (Kd.S_elder' (by (with_reducible repeat (first | apply Kd.S_alloc | apply Kd.S_drewN | apply Kd.S_drew)); exact HO428.out) (Kd.R_base ho0) hb); have n1_ := Aside0.mk (Kd.R_lower ho0 (below_size (by repeat (first | (with_reducible first | exact HB.out | apply below_alloc | apply pw_below_drewN | apply below_drew1) | exact HB.out)))); have n2_ := Aside0.mk (below_step (by repeat (first | (with_reducible first | exact HB.out | apply below_alloc | apply pw_below_drewN | apply below_drew1) | exact HB.out)) hb); clear HO428; clear HB; have HO428 := n0_; have HO432 := n1_; have HB := n2_; clear n0_ n1_ n2_; (try clear hb); (try clear hb2); (try clear hk); (try clear hi); (try clear ho0)) | (go_at_call 17; (with_reducible refine (turns_Passes.calls k _ _ t426 t433 t434 _ ?side1 ?side2 A6.out).mono ?_); (case side1 => repeat (first | exact (Kd.S_reads' HO428.out).2.2 | (with_reducible refine Kd.C_alloc ?_ _) | (with_reducible refine Kd.C_drewN ?_ _) | (with_reducible refine Kd.C_drew ?_))); (case side2 => exact (Kd.S_reads' HO428.out).2.1); rintro e w12 ⟨v435, rfl, ho0, hb⟩; have n0_ := Aside0.mk (Kd.S_elder' (by (with_reducible repeat (first | apply Kd.S_alloc | apply Kd.S_drewN | apply Kd.S_drew)); exact HO428.out) (Kd.R_base ho0) hb); have n1_ := Aside0.mk (Kd.R_elder' (by (with_reducible repeat (first | apply Kd.R_alloc | apply Kd.R_drewN | apply Kd.R_drew)); exact HO432.out) (Kd.R_base ho0) hb); have n2_ := Aside0.mk (Kd.R_lower (Kd.R_new' ho0 (Kd.R_lt (by (with_reducible repeat (first | apply Kd.R_alloc | apply Kd.R_drewN | apply Kd.R_drew)); exact HO432.out))) (below_size (by repeat (first | (with_reducible first | exact HB.out | apply below_alloc | apply pw_below_drewN | apply below_drew1) | exact HB.out)))); have n3_ := Aside0.mk (below_step (by repeat (first | (with_reducible first | exact HB.out | apply below_alloc | apply pw_below_drewN | apply below_drew1) | exact HB.out)) hb); clear HO428; clear HO432; clear HB; have HO428 := n0_; have HO432 := n1_; have HO436 := n2_; have HB := n3_; clear n0_ n1_ n2_ n3_; (try clear hb); (try clear hb2); (try clear hk); (try clear hi); (try clear ho0))))
    (try simp only [Act.put, List.setIfInBounds_toArray, List.set_cons_zero, List.set_cons_succ])
    go_cut [39] (fun v39 wc => ∃ (kq : Nat) (x39_6 : Bool), v39 = .bool x39_6 ∧ Aside0 (partitalaw10_TurnsSteps.j0 kq true t426 t429 t430 t433 x39_6 = some r) ∧ Aside0 (kq ≤ k) ∧ Aside0 (Kd.S k38 38 wc w.heap.size (fun k_ => some k_ ≠ (v431 : Value).ownBlock ∧ some k_ ≠ (v435 : Value).ownBlock) (.slice Ao10 t426.length co10) t426) ∧ Aside0 (Kd.R (Kd.int .i64) 3 wc w.heap.size (fun k_ => some k_ ≠ (v435 : Value).ownBlock) v431 t429) ∧ Aside0 (Kd.R (Kd.int .i64) 3 wc w.heap.size (fun k_ => some k_ ≠ (v431 : Value).ownBlock) v435 t433) ∧ Aside0 (Below w.heap.size w wc))
    case first =>
      have H := HC7.out
      clear HC7
      by_cases c13 : t430 = t434
      · rw [if_pos c13] at H
        have c13b0 : (t430 == t434) = true := beq_iff_eq.mpr c13
        have c13b1 : (t430 != t434) = false := bne_eq_false_iff_eq.mpr c13
        clear c13
        (first | rw [c13b0] | (simp only [i64_w, i32_w]; rw [c13b0]) | skip)
        have H' := Aside0.mk H
        clear H
        obtain ⟨Ao14, co14, eo14⟩ := Kd.R_slice HO432.out
        subst eo14
        obtain ⟨Ao15, co15, eo15⟩ := Kd.R_slice HO436.out
        subst eo15
        go_wp2
        repeat (go_quiet (fail); try go_wp2)
        go_meet
        case rel => exact ⟨_, (((t429.length : Int) != (t433.length : Int))), (by first | rfl | (simp; done) | (simp [*]; done)), H', ⟨by first | omega | exact Nat.le_refl _⟩, ⟨by (with_reducible repeat (first | apply Kd.S_alloc | apply Kd.S_drewN | apply Kd.S_drew)); exact Kd.S_mono HO428.out (fun _ hk => ⟨hk.1.2, hk.2⟩)⟩, ⟨by (with_reducible repeat (first | apply Kd.R_alloc | apply Kd.R_drewN | apply Kd.R_drew)); exact Kd.R_mono HO432.out (fun _ hk => hk.2)⟩, ⟨by (with_reducible repeat (first | apply Kd.R_alloc | apply Kd.R_drewN | apply Kd.R_drew)); exact Kd.R_mono HO436.out (fun _ hk => hk.2)⟩, ⟨by repeat (first | (with_reducible first | exact HB.out | apply below_alloc | apply pw_below_drewN | apply below_drew1) | exact HB.out)⟩⟩
      · rw [if_neg c13] at H
        have c13b0 : (t430 == t434) = false := beq_eq_false_iff_ne.mpr c13
        have c13b1 : (t430 != t434) = true := bne_iff_ne.mpr c13
        (first | rw [c13b0] | (simp only [i64_w, i32_w]; rw [c13b0]) | skip)
        have H' := Aside0.mk H
        clear H
        go_wp2
        repeat (go_quiet (fail); try go_wp2)
        go_meet
        case rel => exact ⟨_, (true), (by first | rfl | (simp; done) | (simp [*]; done)), H', ⟨by first | omega | exact Nat.le_refl _⟩, ⟨by (with_reducible repeat (first | apply Kd.S_alloc | apply Kd.S_drewN | apply Kd.S_drew)); exact Kd.S_mono HO428.out (fun _ hk => ⟨hk.1.2, hk.2⟩)⟩, ⟨by (with_reducible repeat (first | apply Kd.R_alloc | apply Kd.R_drewN | apply Kd.R_drew)); exact Kd.R_mono HO432.out (fun _ hk => hk.2)⟩, ⟨by (with_reducible repeat (first | apply Kd.R_alloc | apply Kd.R_drewN | apply Kd.R_drew)); exact Kd.R_mono HO436.out (fun _ hk => hk.2)⟩, ⟨by repeat (first | (with_reducible first | exact HB.out | apply below_alloc | apply pw_below_drewN | apply below_drew1) | exact HB.out)⟩⟩
    case rest =>
      clear HC7
      try clear c1
      try clear p2
      try clear c3
      try clear c9
      try clear c13
      try clear c13b0
      try clear c13b1
      obtain ⟨kq, x39_6, rfl, HA, HJ6, HO_4, HO_5, HO_7, HB⟩ := hcut
      cases kq with
      | zero => exact absurd HA.out (by simp [partitalaw10_TurnsSteps.j0])
      | succ kj6 =>
        have H := HA.out
        clear HA
        simp only [partitalaw10_TurnsSteps.j0] at H
        by_cases c16 : x39_6 = true
        · subst c16
          have H1 : (some false) = some r := by rw [if_pos rfl] at H; exact H
          clear H
          have H := H1
          clear H1
          obtain rfl := Option.some.inj H
          go_wp2
          repeat (go_quiet (fail); try go_wp2)
          go_ret
          exact ⟨by first | rfl | (simp [errW_none, errW_some] <;> rfl) | (simp [*, errW_none, errW_some] <;> rfl), by repeat (first | (with_reducible first | exact HB.out | apply below_alloc | apply pw_below_drewN | apply below_drew1) | exact HB.out)⟩
        · replace c16 := Bool.eq_false_iff.mpr c16
          subst c16
          have H1 : (partitalaw10_TurnsSteps.l0 kj6 true t426 t429 t430 t433 (-1) 0) = some r := by rw [if_neg (show ¬ (false = true) by decide)] at H; exact H
          clear H
          have H := H1
          clear H1
          have H' := Aside0.mk H
          clear H
          go_wp2
          repeat (go_quiet (fail); try go_wp2)
          go_loopg [9, 10] kj6 (fun kq v9 v10 w' => ∃ (x9_2 : Int) (x10_2 : Int), v9 = .int .i64 x9_2 ∧ v10 = .int .i64 x10_2 ∧ Aside0 (partitalaw10_TurnsSteps.l0 kq true t426 t429 t430 t433 x9_2 x10_2 = some r) ∧ Aside0 (kq ≤ kj6) ∧ Aside0 (Kd.S k38 38 w' w.heap.size (fun k_ => some k_ ≠ (v431 : Value).ownBlock ∧ some k_ ≠ (v435 : Value).ownBlock) (.slice Ao10 t426.length co10) t426) ∧ Aside0 (Kd.R (Kd.int .i64) 3 w' w.heap.size (fun k_ => some k_ ≠ (v435 : Value).ownBlock) v431 t429) ∧ Aside0 (Kd.R (Kd.int .i64) 3 w' w.heap.size (fun k_ => some k_ ≠ (v431 : Value).ownBlock) v435 t433) ∧ Aside0 (Below w.heap.size w w'))
          case atStart => exact ⟨((-1)), (0), (by first | rfl | (simp; done) | (simp [*]; done)), (by first | rfl | (simp; done) | (simp [*]; done)), H', ⟨Nat.le_refl _⟩, ⟨by (with_reducible repeat (first | apply Kd.S_alloc | apply Kd.S_drewN | apply Kd.S_drew)); exact HO_4.out⟩, ⟨by (with_reducible repeat (first | apply Kd.R_alloc | apply Kd.R_drewN | apply Kd.R_drew)); exact HO_5.out⟩, ⟨by (with_reducible repeat (first | apply Kd.R_alloc | apply Kd.R_drewN | apply Kd.R_drew)); exact HO_7.out⟩, ⟨by repeat (first | (with_reducible first | exact HB.out | apply below_alloc | apply pw_below_drewN | apply below_drew1) | exact HB.out)⟩⟩
          case round =>
            clear H'
            try clear c1
            try clear p2
            try clear c3
            try clear c9
            try clear c13
            try clear c13b0
            try clear c13b1
            try clear c16
            try clear p2
            obtain ⟨x9_2, x10_2, rfl, rfl, HA, HK2, HO_4, HO_5, HO_7, HB⟩ := hrel
            cases gk with
            | zero => exact absurd HA.out (by simp [partitalaw10_TurnsSteps.l0])
            | succ k2 =>
              have H := HA.out
              clear HA
              simp only [partitalaw10_TurnsSteps.l0] at H
              by_cases c17 : x10_2 < (t429.length : Int)
              · rw [if_pos c17] at H
                have c17b0 : decide (x10_2 < (t429.length : Int)) = true := decide_eq_true c17
                clear c17
                by_cases c18 : 0 ≤ x10_2
                · rw [if_pos c18] at H
                  have c18b0 : decide (0 ≤ x10_2) = true := decide_eq_true c18
                  clear c18
                  have HC19 := Aside0.mk H
                  clear H
                  obtain ⟨Ao20, co20, eo20⟩ := Kd.R_slice HO_5.out
                  subst eo20
                  have p437 : 0 ≤ (x10_2 : Int) := of_decide_eq_true (by first | (with_reducible assumption) | assumption)
                  have q437 : x10_2 < (t429.length : Int) := of_decide_eq_true (by first | (with_reducible assumption) | assumption)
                  obtain ⟨ad437, e437, hx437_0⟩ := Kd.at_int (Kd.R_reads' HO_5.out).2.2 x10_2 p437 q437
                  cases e437
                  replace p437 := eq_true p437
                  replace q437 := eq_true q437
                  go_upto_region 14 with (fail)
                  repeat (go_quiet (fail); go_upto_region 14 with (fail))
                  go_cut [71] (fun v71 wc => ∃ (kq : Nat) (x71_18 : Bool), v71 = .bool x71_18 ∧ Aside0 (partitalaw10_TurnsSteps.j2 kq true t426 t429 t430 t433 x9_2 x10_2 (rd t429 x10_2) x71_18 = some r) ∧ Aside0 (kq ≤ k2) ∧ Aside0 (Kd.S k38 38 wc w.heap.size (fun k_ => some k_ ≠ ((.slice (some ad437) t429.length co20) : Value).ownBlock ∧ some k_ ≠ (v435 : Value).ownBlock) (.slice Ao10 t426.length co10) t426) ∧ Aside0 (Kd.R (Kd.int .i64) 3 wc w.heap.size (fun k_ => some k_ ≠ (v435 : Value).ownBlock) (.slice (some ad437) t429.length co20) t429) ∧ Aside0 (Kd.R (Kd.int .i64) 3 wc w.heap.size (fun k_ => some k_ ≠ ((.slice (some ad437) t429.length co20) : Value).ownBlock) v435 t433) ∧ Aside0 (Below w.heap.size w wc))
                  case first =>
                    have H := HC19.out
                    clear HC19
                    by_cases c21 : (rd t429 x10_2) < 0
                    · rw [if_pos c21] at H
                      have c21b0 : decide ((rd t429 x10_2) < 0) = true := decide_eq_true c21
                      clear c21
                      (first | rw [c21b0] | (simp only [i64_w, i32_w]; rw [c21b0]) | skip)
                      have H' := Aside0.mk H
                      clear H
                      go_wp2
                      repeat (go_quiet (fail); try go_wp2)
                      go_meet
                      case rel => exact ⟨_, (true), (by first | rfl | (simp; done) | (simp [*]; done)), H', ⟨by have := HJ6.out; have := HK2.out; first | omega | exact Nat.le_refl _⟩, ⟨by (with_reducible repeat (first | apply Kd.S_alloc | apply Kd.S_drewN | apply Kd.S_drew)); exact HO_4.out⟩, ⟨by (with_reducible repeat (first | apply Kd.R_alloc | apply Kd.R_drewN | apply Kd.R_drew)); exact HO_5.out⟩, ⟨by (with_reducible repeat (first | apply Kd.R_alloc | apply Kd.R_drewN | apply Kd.R_drew)); exact HO_7.out⟩, ⟨by repeat (first | (with_reducible first | exact HB.out | apply below_alloc | apply pw_below_drewN | apply below_drew1) | exact HB.out)⟩⟩
                    · rw [if_neg c21] at H
                      have c21b0 : decide ((rd t429 x10_2) < 0) = false := decide_eq_false c21
                      clear c21
                      (first | rw [c21b0] | (simp only [i64_w, i32_w]; rw [c21b0]) | skip)
                      by_cases c22 : (rd t429 x10_2) ≥ (t426.length : Int)
                      · rw [if_pos c22] at H
                        have c22b0 : decide ((t426.length : Int) ≤ (rd t429 x10_2)) = true := decide_eq_true c22
                        clear c22
                        have H' := Aside0.mk H
                        clear H
                        go_wp2
                        repeat (go_quiet (fail); try go_wp2)
                        go_meet
                        case rel => exact ⟨_, (true), (by first | rfl | (simp; done) | (simp [*]; done)), H', ⟨by have := HJ6.out; have := HK2.out; first | omega | exact Nat.le_refl _⟩, ⟨by (with_reducible repeat (first | apply Kd.S_alloc | apply Kd.S_drewN | apply Kd.S_drew)); exact HO_4.out⟩, ⟨by (with_reducible repeat (first | apply Kd.R_alloc | apply Kd.R_drewN | apply Kd.R_drew)); exact HO_5.out⟩, ⟨by (with_reducible repeat (first | apply Kd.R_alloc | apply Kd.R_drewN | apply Kd.R_drew)); exact HO_7.out⟩, ⟨by repeat (first | (with_reducible first | exact HB.out | apply below_alloc | apply pw_below_drewN | apply below_drew1) | exact HB.out)⟩⟩
                      · rw [if_neg c22] at H
                        have c22b0 : decide ((t426.length : Int) ≤ (rd t429 x10_2)) = false := decide_eq_false c22
                        clear c22
                        by_cases c23 : x10_2 < (t433.length : Int)
                        · rw [if_pos c23] at H
                          have c23b0 : decide (x10_2 < (t433.length : Int)) = true := decide_eq_true c23
                          clear c23
                          by_cases c24 : (rd t433 x10_2) < 1
                          · rw [if_pos c24] at H
                            have c24b0 : decide ((rd t433 x10_2) < 1) = true := decide_eq_true c24
                            clear c24
                            have H' := Aside0.mk H
                            clear H
                            obtain ⟨Ao25, co25, eo25⟩ := Kd.R_slice HO_7.out
                            subst eo25
                            have p438 : 0 ≤ (x10_2 : Int) := of_decide_eq_true (by first | (with_reducible assumption) | assumption)
                            have q438 : x10_2 < (t433.length : Int) := of_decide_eq_true (by first | (with_reducible assumption) | assumption)
                            obtain ⟨ad438, e438, hx438_0⟩ := Kd.at_int (Kd.R_reads' HO_7.out).2.2 x10_2 p438 q438
                            cases e438
                            replace p438 := eq_true p438
                            replace q438 := eq_true q438
                            go_wp2
                            repeat (go_quiet (fail); try go_wp2)
                            go_meet
                            case rel => exact ⟨_, (true), (by first | rfl | (simp; done) | (simp [*]; done)), H', ⟨by have := HJ6.out; have := HK2.out; first | omega | exact Nat.le_refl _⟩, ⟨by (with_reducible repeat (first | apply Kd.S_alloc | apply Kd.S_drewN | apply Kd.S_drew)); exact HO_4.out⟩, ⟨by (with_reducible repeat (first | apply Kd.R_alloc | apply Kd.R_drewN | apply Kd.R_drew)); exact HO_5.out⟩, ⟨by (with_reducible repeat (first | apply Kd.R_alloc | apply Kd.R_drewN | apply Kd.R_drew)); exact HO_7.out⟩, ⟨by repeat (first | (with_reducible first | exact HB.out | apply below_alloc | apply pw_below_drewN | apply below_drew1) | exact HB.out)⟩⟩
                          · rw [if_neg c24] at H
                            have c24b0 : decide ((rd t433 x10_2) < 1) = false := decide_eq_false c24
                            clear c24
                            have H' := Aside0.mk H
                            clear H
                            obtain ⟨Ao26, co26, eo26⟩ := Kd.R_slice HO_7.out
                            subst eo26
                            have p438 : 0 ≤ (x10_2 : Int) := of_decide_eq_true (by first | (with_reducible assumption) | assumption)
                            have q438 : x10_2 < (t433.length : Int) := of_decide_eq_true (by first | (with_reducible assumption) | assumption)
                            obtain ⟨ad438, e438, hx438_0⟩ := Kd.at_int (Kd.R_reads' HO_7.out).2.2 x10_2 p438 q438
                            cases e438
                            replace p438 := eq_true p438
                            replace q438 := eq_true q438
                            have p439 : 0 ≤ (x10_2 : Int) := of_decide_eq_true (by first | (with_reducible assumption) | assumption)
                            have q439 : x10_2 < (t433.length : Int) := of_decide_eq_true (by first | (with_reducible assumption) | assumption)
                            obtain ⟨ad439, e439, hx439_0⟩ := Kd.at_int (Kd.R_reads' HO_7.out).2.2 x10_2 p439 q439
                            obtain rfl : ad438 = ad439 := (by injection e439)
                            replace p439 := eq_true p439
                            replace q439 := eq_true q439
                            go_wp2
                            repeat (go_quiet (fail); try go_wp2)
                            go_meet
                            case rel => exact ⟨_, (decide ((rd t433 x10_2) > 9)), (by first | rfl | (simp; done) | (simp [*]; done)), H', ⟨by have := HJ6.out; have := HK2.out; first | omega | exact Nat.le_refl _⟩, ⟨by (with_reducible repeat (first | apply Kd.S_alloc | apply Kd.S_drewN | apply Kd.S_drew)); exact HO_4.out⟩, ⟨by (with_reducible repeat (first | apply Kd.R_alloc | apply Kd.R_drewN | apply Kd.R_drew)); exact HO_5.out⟩, ⟨by (with_reducible repeat (first | apply Kd.R_alloc | apply Kd.R_drewN | apply Kd.R_drew)); exact HO_7.out⟩, ⟨by repeat (first | (with_reducible first | exact HB.out | apply below_alloc | apply pw_below_drewN | apply below_drew1) | exact HB.out)⟩⟩
                        · rw [if_neg c23] at H
                          exact absurd H (by simp)
                  case rest =>
                    clear HC19
                    try clear c1
                    try clear c2
                    try clear p2
                    try clear c3
                    try clear p4
                    try clear q4
                    try clear hx4
                    try clear c9
                    try clear c13
                    try clear c13b0
                    try clear c13b1
                    try clear c16
                    try clear c17
                    try clear c17b0
                    try clear c18
                    try clear c18b0
                    try clear c21
                    try clear c21b0
                    try clear c22
                    try clear c22b0
                    try clear c23
                    try clear c23b0
                    try clear c24
                    try clear c24b0
                    try clear hx437_0
                    try clear hx438_0
                    try clear hx439_0
                    try clear p2
                    try clear p437
                    try clear p438
                    try clear p439
                    try clear q437
                    try clear q438
                    try clear q439
                    obtain ⟨kq, x71_18, rfl, HA, HJ18, HO_4, HO_5, HO_7, HB⟩ := hcut
                    cases kq with
                    | zero => exact absurd HA.out (by simp [partitalaw10_TurnsSteps.j2])
                    | succ kj18 =>
                      have H := HA.out
                      clear HA
                      simp only [partitalaw10_TurnsSteps.j2] at H
                      by_cases c27 : x71_18 = true
                      · subst c27
                        have H1 : (some false) = some r := by rw [if_pos rfl] at H; exact H
                        clear H
                        have H := H1
                        clear H1
                        obtain rfl := Option.some.inj H
                        go_wp2
                        repeat (go_quiet (fail); try go_wp2)
                        go_ret
                        exact ⟨by first | rfl | (simp [errW_none, errW_some] <;> rfl) | (simp [*, errW_none, errW_some] <;> rfl), by repeat (first | (with_reducible first | exact HB.out | apply below_alloc | apply pw_below_drewN | apply below_drew1) | exact HB.out)⟩
                      · replace c27 := Bool.eq_false_iff.mpr c27
                        subst c27
                        have H1 : (if (rd t429 x10_2) ≤ x9_2 then (if 0 ≤ x9_2 then (if x9_2 < (t426.length : Int) then (partitalaw10_TurnsSteps.j3 kj18 true t426 t429 t430 t433 x9_2 x10_2 (rd t429 x10_2) (decide (((rd_T38 t426 x9_2).f1) < 2))) else (none)) else (none)) else (partitalaw10_TurnsSteps.j3 kj18 true t426 t429 t430 t433 x9_2 x10_2 (rd t429 x10_2) false)) = some r := by rw [if_neg (show ¬ (false = true) by decide)] at H; exact H
                        clear H
                        have H := H1
                        clear H1
                        have HC28 := Aside0.mk H
                        clear H
                        go_upto_region 16 with (fail)
                        repeat (go_quiet (fail); go_upto_region 16 with (fail))
                        go_cut [82] (fun v82 wc => ∃ (kq : Nat) (x82_27 : Bool), v82 = .bool x82_27 ∧ Aside0 (partitalaw10_TurnsSteps.j3 kq true t426 t429 t430 t433 x9_2 x10_2 (rd t429 x10_2) x82_27 = some r) ∧ Aside0 (kq ≤ kj18) ∧ Aside0 (Kd.S k38 38 wc w.heap.size (fun k_ => some k_ ≠ ((.slice (some ad437) t429.length co20) : Value).ownBlock ∧ some k_ ≠ (v435 : Value).ownBlock) (.slice Ao10 t426.length co10) t426) ∧ Aside0 (Kd.R (Kd.int .i64) 3 wc w.heap.size (fun k_ => some k_ ≠ (v435 : Value).ownBlock) (.slice (some ad437) t429.length co20) t429) ∧ Aside0 (Kd.R (Kd.int .i64) 3 wc w.heap.size (fun k_ => some k_ ≠ ((.slice (some ad437) t429.length co20) : Value).ownBlock) v435 t433) ∧ Aside0 (Below w.heap.size w wc))
                        case first =>
                          have H := HC28.out
                          clear HC28
                          by_cases c29 : (rd t429 x10_2) ≤ x9_2
                          · rw [if_pos c29] at H
                            have c29b0 : decide ((rd t429 x10_2) ≤ x9_2) = true := decide_eq_true c29
                            clear c29
                            (first | rw [c29b0] | (simp only [i64_w, i32_w]; rw [c29b0]) | skip)
                            by_cases c30 : 0 ≤ x9_2
                            · rw [if_pos c30] at H
                              have c30b0 : decide (0 ≤ x9_2) = true := decide_eq_true c30
                              clear c30
                              by_cases c31 : x9_2 < (t426.length : Int)
                              · rw [if_pos c31] at H
                                have c31b0 : decide (x9_2 < (t426.length : Int)) = true := decide_eq_true c31
                                clear c31
                                have H' := Aside0.mk H
                                clear H
                                have p440 : 0 ≤ (x9_2 : Int) := of_decide_eq_true (by first | (with_reducible assumption) | assumption)
                                have q440 : x9_2 < (t426.length : Int) := of_decide_eq_true (by first | (with_reducible assumption) | assumption)
                                obtain ⟨ad440, A440_2, c440_2, e440, hx440_0, hx440_1, hx440_2, hx440_3, hx440_4, hx440_5, hx440_6, hx440_7, hl440_2, hi440_2⟩ := at_T38 (Kd.S_reads' HO_4.out).2.2 x9_2 p440 q440
                                cases e440
                                obtain ⟨ce440, hce440, hMe440, hcc440⟩ := Kd.S_get HO_4.out z38 x9_2 p440 (by first | exact q440 | exact of_decide_eq_true (by first | (with_reducible assumption) | assumption) | (have e_ := (Kd.S_reads' HO_4.out).1; omega))
                                obtain ⟨ve440_2, rfl, ge440_2⟩ := k38_openM hMe440
                                have hv440_2 := hcc440 2 _ rfl
                                rw [add_field _ _ 2 (by omega)] at hv440_2
                                replace hv440_2 := Option.some.inj (hv440_2.symm.trans hx440_2)
                                rw [hv440_2] at ge440_2
                                have HL440_2 := Aside0.mk (show Kd.R (Kd.int .i64) 3 _ _ _ _ ((rd_T38 t426 x9_2).f2) from ge440_2)
                                clear hv440_2 ge440_2
                                clear hcc440 hce440
                                have HR440_2 := Aside0.mk hi440_2
                                have HC440_2 := Aside0.mk hl440_2
                                clear hi440_2 hl440_2
                                replace p440 := eq_true p440
                                replace q440 := eq_true q440
                                go_wp2
                                repeat (go_quiet (fail); try go_wp2)
                                go_meet
                                case rel => exact ⟨_, (decide (((rd_T38 t426 x9_2).f1) < 2)), (by first | rfl | (simp; done) | (simp [*]; done)), H', ⟨by have := HJ6.out; have := HK2.out; have := HJ18.out; first | omega | exact Nat.le_refl _⟩, ⟨by (with_reducible repeat (first | apply Kd.S_alloc | apply Kd.S_drewN | apply Kd.S_drew)); exact HO_4.out⟩, ⟨by (with_reducible repeat (first | apply Kd.R_alloc | apply Kd.R_drewN | apply Kd.R_drew)); exact HO_5.out⟩, ⟨by (with_reducible repeat (first | apply Kd.R_alloc | apply Kd.R_drewN | apply Kd.R_drew)); exact HO_7.out⟩, ⟨by repeat (first | (with_reducible first | exact HB.out | apply below_alloc | apply pw_below_drewN | apply below_drew1) | exact HB.out)⟩⟩
                              · rw [if_neg c31] at H
                                exact absurd H (by simp)
                            · rw [if_neg c30] at H
                              exact absurd H (by simp)
                          · rw [if_neg c29] at H
                            have c29b0 : decide ((rd t429 x10_2) ≤ x9_2) = false := decide_eq_false c29
                            clear c29
                            (first | rw [c29b0] | (simp only [i64_w, i32_w]; rw [c29b0]) | skip)
                            have H' := Aside0.mk H
                            clear H
                            go_wp2
                            repeat (go_quiet (fail); try go_wp2)
                            go_meet
                            case rel => exact ⟨_, (false), (by first | rfl | (simp; done) | (simp [*]; done)), H', ⟨by have := HJ6.out; have := HK2.out; have := HJ18.out; first | omega | exact Nat.le_refl _⟩, ⟨by (with_reducible repeat (first | apply Kd.S_alloc | apply Kd.S_drewN | apply Kd.S_drew)); exact HO_4.out⟩, ⟨by (with_reducible repeat (first | apply Kd.R_alloc | apply Kd.R_drewN | apply Kd.R_drew)); exact HO_5.out⟩, ⟨by (with_reducible repeat (first | apply Kd.R_alloc | apply Kd.R_drewN | apply Kd.R_drew)); exact HO_7.out⟩, ⟨by repeat (first | (with_reducible first | exact HB.out | apply below_alloc | apply pw_below_drewN | apply below_drew1) | exact HB.out)⟩⟩
                        case rest =>
                          clear HC28
                          try clear c1
                          try clear c2
                          try clear p2
                          try clear c3
                          try clear c4
                          try clear p4
                          try clear q4
                          try clear hx4
                          try clear c9
                          try clear c13
                          try clear c13b0
                          try clear c13b1
                          try clear c16
                          try clear c17
                          try clear c17b0
                          try clear c18
                          try clear c18b0
                          try clear c21
                          try clear c21b0
                          try clear c22
                          try clear c22b0
                          try clear c23
                          try clear c23b0
                          try clear c24
                          try clear c24b0
                          try clear c27
                          try clear c29
                          try clear c29b0
                          try clear c30
                          try clear c30b0
                          try clear c31
                          try clear c31b0
                          try clear hx437_0
                          try clear hx438_0
                          try clear hx439_0
                          try clear hx440_0
                          try clear hx440_1
                          try clear hx440_2
                          try clear hx440_3
                          try clear hx440_4
                          try clear hx440_5
                          try clear hx440_6
                          try clear hx440_7
                          try clear p2
                          try clear p4
                          try clear p437
                          try clear p438
                          try clear p439
                          try clear p440
                          try clear q4
                          try clear q437
                          try clear q438
                          try clear q439
                          try clear q440
                          obtain ⟨kq, x82_27, rfl, HA, HJ27, HO_4, HO_5, HO_7, HB⟩ := hcut
                          cases kq with
                          | zero => exact absurd HA.out (by simp [partitalaw10_TurnsSteps.j3])
                          | succ kj27 =>
                            have H := HA.out
                            clear HA
                            simp only [partitalaw10_TurnsSteps.j3] at H
                            by_cases c32 : x82_27 = true
                            · subst c32
                              have H1 : (some false) = some r := by rw [if_pos rfl] at H; exact H
                              clear H
                              have H := H1
                              clear H1
                              obtain rfl := Option.some.inj H
                              go_wp2
                              repeat (go_quiet (fail); try go_wp2)
                              go_ret
                              exact ⟨by first | rfl | (simp [errW_none, errW_some] <;> rfl) | (simp [*, errW_none, errW_some] <;> rfl), by repeat (first | (with_reducible first | exact HB.out | apply below_alloc | apply pw_below_drewN | apply below_drew1) | exact HB.out)⟩
                            · replace c32 := Bool.eq_false_iff.mpr c32
                              subst c32
                              have H1 : (partitalaw10_TurnsSteps.l1 kj27 true t426 t429 t430 t433 x10_2 (rd t429 x10_2) (wrap64 (x9_2 + 1))) = some r := by rw [if_neg (show ¬ (false = true) by decide)] at H; exact H
                              clear H
                              have H := H1
                              clear H1
                              have H' := Aside0.mk H
                              clear H
                              go_wp2
                              repeat (go_quiet (fail); try go_wp2)
                              go_loopg [12] kj27 (fun kq v12 w' => ∃ (x12_5 : Int), v12 = .int .i64 x12_5 ∧ Aside0 (partitalaw10_TurnsSteps.l1 kq true t426 t429 t430 t433 x10_2 (rd t429 x10_2) x12_5 = some r) ∧ Aside0 (kq ≤ kj27) ∧ Aside0 (Kd.S k38 38 w' w.heap.size (fun k_ => some k_ ≠ ((.slice (some ad437) t429.length co20) : Value).ownBlock ∧ some k_ ≠ (v435 : Value).ownBlock) (.slice Ao10 t426.length co10) t426) ∧ Aside0 (Kd.R (Kd.int .i64) 3 w' w.heap.size (fun k_ => some k_ ≠ (v435 : Value).ownBlock) (.slice (some ad437) t429.length co20) t429) ∧ Aside0 (Kd.R (Kd.int .i64) 3 w' w.heap.size (fun k_ => some k_ ≠ ((.slice (some ad437) t429.length co20) : Value).ownBlock) v435 t433) ∧ Aside0 (Below w.heap.size w w'))
                              case atStart => exact ⟨(wrap64 (x9_2 + 1)), (by first | rfl | (simp; done) | (simp [*]; done)), H', ⟨Nat.le_refl _⟩, ⟨by (with_reducible repeat (first | apply Kd.S_alloc | apply Kd.S_drewN | apply Kd.S_drew)); exact HO_4.out⟩, ⟨by (with_reducible repeat (first | apply Kd.R_alloc | apply Kd.R_drewN | apply Kd.R_drew)); exact HO_5.out⟩, ⟨by (with_reducible repeat (first | apply Kd.R_alloc | apply Kd.R_drewN | apply Kd.R_drew)); exact HO_7.out⟩, ⟨by repeat (first | (with_reducible first | exact HB.out | apply below_alloc | apply pw_below_drewN | apply below_drew1) | exact HB.out)⟩⟩
                              case round =>
                                clear H'
                                try clear c1
                                try clear c2
                                try clear p2
                                try clear c3
                                try clear c4
                                try clear p4
                                try clear q4
                                try clear hx4
                                try clear p6
                                try clear c9
                                try clear c13
                                try clear c13b0
                                try clear c13b1
                                try clear c16
                                try clear c17
                                try clear c17b0
                                try clear c18
                                try clear c18b0
                                try clear c21
                                try clear c21b0
                                try clear c22
                                try clear c22b0
                                try clear c23
                                try clear c23b0
                                try clear c24
                                try clear c24b0
                                try clear c27
                                try clear c29
                                try clear c29b0
                                try clear c30
                                try clear c30b0
                                try clear c31
                                try clear c31b0
                                try clear c32
                                try clear hx437_0
                                try clear hx438_0
                                try clear hx439_0
                                try clear hx440_0
                                try clear hx440_1
                                try clear hx440_2
                                try clear hx440_3
                                try clear hx440_4
                                try clear hx440_5
                                try clear hx440_6
                                try clear hx440_7
                                try clear p2
                                try clear p4
                                try clear p437
                                try clear p438
                                try clear p439
                                try clear p440
                                try clear q4
                                try clear q437
                                try clear q438
                                try clear q439
                                try clear q440
                                obtain ⟨x12_5, rfl, HA, HK5, HO_4, HO_5, HO_7, HB⟩ := hrel
                                cases gk with
                                | zero => exact absurd HA.out (by simp [partitalaw10_TurnsSteps.l1])
                                | succ k5 =>
                                  have H := HA.out
                                  clear HA
                                  simp only [partitalaw10_TurnsSteps.l1] at H
                                  by_cases c33 : x12_5 < (rd t429 x10_2)
                                  · rw [if_pos c33] at H
                                    have c33b0 : decide (x12_5 < (rd t429 x10_2)) = true := decide_eq_true c33
                                    clear c33
                                    by_cases c34 : 0 ≤ x12_5
                                    · rw [if_pos c34] at H
                                      have c34b0 : decide (0 ≤ x12_5) = true := decide_eq_true c34
                                      clear c34
                                      by_cases c35 : x12_5 < (t426.length : Int)
                                      · rw [if_pos c35] at H
                                        have c35b0 : decide (x12_5 < (t426.length : Int)) = true := decide_eq_true c35
                                        clear c35
                                        by_cases c36 : (((rd_T38 t426 x12_5).f2).length : Int) = 0
                                        · rw [if_pos c36] at H
                                          have c36b0 : ((((rd_T38 t426 x12_5).f2).length : Int) == 0) = true := beq_iff_eq.mpr c36
                                          have c36b1 : ((((rd_T38 t426 x12_5).f2).length : Int) != 0) = false := bne_eq_false_iff_eq.mpr c36
                                          clear c36
                                          obtain rfl := Option.some.inj H
                                          have p441 : 0 ≤ (x12_5 : Int) := of_decide_eq_true (by first | (with_reducible assumption) | assumption)
                                          have q441 : x12_5 < (t426.length : Int) := of_decide_eq_true (by first | (with_reducible assumption) | assumption)
                                          obtain ⟨ad441, A441_2, c441_2, e441, hx441_0, hx441_1, hx441_2, hx441_3, hx441_4, hx441_5, hx441_6, hx441_7, hl441_2, hi441_2⟩ := at_T38 (Kd.S_reads' HO_4.out).2.2 x12_5 p441 q441
                                          cases e441
                                          obtain ⟨ce441, hce441, hMe441, hcc441⟩ := Kd.S_get HO_4.out z38 x12_5 p441 (by first | exact q441 | exact of_decide_eq_true (by first | (with_reducible assumption) | assumption) | (have e_ := (Kd.S_reads' HO_4.out).1; omega))
                                          obtain ⟨ve441_2, rfl, ge441_2⟩ := k38_openM hMe441
                                          have hv441_2 := hcc441 2 _ rfl
                                          rw [add_field _ _ 2 (by omega)] at hv441_2
                                          replace hv441_2 := Option.some.inj (hv441_2.symm.trans hx441_2)
                                          rw [hv441_2] at ge441_2
                                          have HL441_2 := Aside0.mk (show Kd.R (Kd.int .i64) 3 _ _ _ _ ((rd_T38 t426 x12_5).f2) from ge441_2)
                                          clear hv441_2 ge441_2
                                          clear hcc441 hce441
                                          have HR441_2 := Aside0.mk hi441_2
                                          have HC441_2 := Aside0.mk hl441_2
                                          clear hi441_2 hl441_2
                                          replace p441 := eq_true p441
                                          replace q441 := eq_true q441
                                          go_wp2
                                          repeat (go_quiet (fail); try go_wp2)
                                          go_ret
                                          exact ⟨by first | rfl | (simp [errW_none, errW_some] <;> rfl) | (simp [*, errW_none, errW_some] <;> rfl), by repeat (first | (with_reducible first | exact HB.out | apply below_alloc | apply pw_below_drewN | apply below_drew1) | exact HB.out)⟩
                                        · rw [if_neg c36] at H
                                          have c36b0 : ((((rd_T38 t426 x12_5).f2).length : Int) == 0) = false := beq_eq_false_iff_ne.mpr c36
                                          have c36b1 : ((((rd_T38 t426 x12_5).f2).length : Int) != 0) = true := bne_iff_ne.mpr c36
                                          have c36b2 : ¬ (((rd_T38 t426 x12_5).f2) = []) := fun h_ => c36 (by rw [h_]; rfl)
                                          have H' := Aside0.mk H
                                          clear H
                                          have p441 : 0 ≤ (x12_5 : Int) := of_decide_eq_true (by first | (with_reducible assumption) | assumption)
                                          have q441 : x12_5 < (t426.length : Int) := of_decide_eq_true (by first | (with_reducible assumption) | assumption)
                                          obtain ⟨ad441, A441_2, c441_2, e441, hx441_0, hx441_1, hx441_2, hx441_3, hx441_4, hx441_5, hx441_6, hx441_7, hl441_2, hi441_2⟩ := at_T38 (Kd.S_reads' HO_4.out).2.2 x12_5 p441 q441
                                          cases e441
                                          obtain ⟨ce441, hce441, hMe441, hcc441⟩ := Kd.S_get HO_4.out z38 x12_5 p441 (by first | exact q441 | exact of_decide_eq_true (by first | (with_reducible assumption) | assumption) | (have e_ := (Kd.S_reads' HO_4.out).1; omega))
                                          obtain ⟨ve441_2, rfl, ge441_2⟩ := k38_openM hMe441
                                          have hv441_2 := hcc441 2 _ rfl
                                          rw [add_field _ _ 2 (by omega)] at hv441_2
                                          replace hv441_2 := Option.some.inj (hv441_2.symm.trans hx441_2)
                                          rw [hv441_2] at ge441_2
                                          have HL441_2 := Aside0.mk (show Kd.R (Kd.int .i64) 3 _ _ _ _ ((rd_T38 t426 x12_5).f2) from ge441_2)
                                          clear hv441_2 ge441_2
                                          clear hcc441 hce441
                                          have HR441_2 := Aside0.mk hi441_2
                                          have HC441_2 := Aside0.mk hl441_2
                                          clear hi441_2 hl441_2
                                          replace p441 := eq_true p441
                                          replace q441 := eq_true q441
                                          go_wp2
                                          repeat (go_quiet (fail); try go_wp2)
                                          go_roundg k5
                                          case measure => have := HJ6.out; have := HK2.out; have := HJ18.out; have := HJ27.out; have := HK5.out; omega
                                          case rel => exact ⟨(wrap64 (x12_5 + 1)), (by first | rfl | (simp; done) | (simp [*]; done)), H', ⟨by have := HJ6.out; have := HK2.out; have := HJ18.out; have := HJ27.out; have := HK5.out; omega⟩, ⟨by (with_reducible repeat (first | apply Kd.S_alloc | apply Kd.S_drewN | apply Kd.S_drew)); exact HO_4.out⟩, ⟨by (with_reducible repeat (first | apply Kd.R_alloc | apply Kd.R_drewN | apply Kd.R_drew)); exact HO_5.out⟩, ⟨by (with_reducible repeat (first | apply Kd.R_alloc | apply Kd.R_drewN | apply Kd.R_drew)); exact HO_7.out⟩, ⟨by repeat (first | (with_reducible first | exact HB.out | apply below_alloc | apply pw_below_drewN | apply below_drew1) | exact HB.out)⟩⟩
                                      · rw [if_neg c35] at H
                                        exact absurd H (by simp)
                                    · rw [if_neg c34] at H
                                      exact absurd H (by simp)
                                  · rw [if_neg c33] at H
                                    have c33b0 : decide (x12_5 < (rd t429 x10_2)) = false := decide_eq_false c33
                                    clear c33
                                    by_cases c37 : 0 ≤ (rd t429 x10_2)
                                    · rw [if_pos c37] at H
                                      have c37b0 : decide (0 ≤ (rd t429 x10_2)) = true := decide_eq_true c37
                                      clear c37
                                      by_cases c38 : (rd t429 x10_2) < (t426.length : Int)
                                      · rw [if_pos c38] at H
                                        have c38b0 : decide ((rd t429 x10_2) < (t426.length : Int)) = true := decide_eq_true c38
                                        clear c38
                                        have H' := Aside0.mk H
                                        clear H
                                        have p442 : 0 ≤ ((rd t429 x10_2) : Int) := of_decide_eq_true (by first | (with_reducible assumption) | assumption)
                                        have q442 : (rd t429 x10_2) < (t426.length : Int) := of_decide_eq_true (by first | (with_reducible assumption) | assumption)
                                        obtain ⟨ad442, A442_2, c442_2, e442, hx442_0, hx442_1, hx442_2, hx442_3, hx442_4, hx442_5, hx442_6, hx442_7, hl442_2, hi442_2⟩ := at_T38 (Kd.S_reads' HO_4.out).2.2 (rd t429 x10_2) p442 q442
                                        cases e442
                                        obtain ⟨ce442, hce442, hMe442, hcc442⟩ := Kd.S_get HO_4.out z38 (rd t429 x10_2) p442 (by first | exact q442 | exact of_decide_eq_true (by first | (with_reducible assumption) | assumption) | (have e_ := (Kd.S_reads' HO_4.out).1; omega))
                                        obtain ⟨ve442_2, rfl, ge442_2⟩ := k38_openM hMe442
                                        have hv442_2 := hcc442 2 _ rfl
                                        rw [add_field _ _ 2 (by omega)] at hv442_2
                                        replace hv442_2 := Option.some.inj (hv442_2.symm.trans hx442_2)
                                        rw [hv442_2] at ge442_2
                                        have HL442_2 := Aside0.mk (show Kd.R (Kd.int .i64) 3 _ _ _ _ ((rd_T38 t426 (rd t429 x10_2)).f2) from ge442_2)
                                        clear hv442_2 ge442_2
                                        clear hcc442 hce442
                                        have HR442_2 := Aside0.mk hi442_2
                                        have HC442_2 := Aside0.mk hl442_2
                                        clear hi442_2 hl442_2
                                        replace p442 := eq_true p442
                                        replace q442 := eq_true q442
                                        go_wp2
                                        repeat (go_quiet (fail); try go_wp2)
                                        go_loopg [13, 14] k5 (fun kq v13 v14 w' => ∃ (x13_6 : Bool) (x14_6 : Int), v13 = .bool x13_6 ∧ v14 = .int .i64 x14_6 ∧ Aside0 (partitalaw10_TurnsSteps.l2 kq true t426 t429 t430 t433 x10_2 (rd t429 x10_2) x13_6 x14_6 = some r) ∧ Aside0 (kq ≤ k5) ∧ Aside0 (Kd.S k38 38 w' w.heap.size (fun k_ => some k_ ≠ ((.slice (some ad437) t429.length co20) : Value).ownBlock ∧ some k_ ≠ (v435 : Value).ownBlock) (.slice (some ad442) t426.length co10) t426) ∧ Aside0 (Kd.R (Kd.int .i64) 3 w' w.heap.size (fun k_ => some k_ ≠ (v435 : Value).ownBlock) (.slice (some ad437) t429.length co20) t429) ∧ Aside0 (Kd.R (Kd.int .i64) 3 w' w.heap.size (fun k_ => some k_ ≠ ((.slice (some ad437) t429.length co20) : Value).ownBlock) v435 t433) ∧ Aside0 (Kd.C (Kd.int .i64) w' A442_2 ((rd_T38 t426 (rd t429 x10_2)).f2).length ((rd_T38 t426 (rd t429 x10_2)).f2)) ∧ Aside0 (Below w.heap.size w w'))
                                        case atStart => exact ⟨(((((rd_T38 t426 (rd t429 x10_2)).f2).length : Int) == 0)), (0), (by first | rfl | (simp; done) | (simp [*]; done)), (by first | rfl | (simp; done) | (simp [*]; done)), H', ⟨Nat.le_refl _⟩, ⟨by (with_reducible repeat (first | apply Kd.S_alloc | apply Kd.S_drewN | apply Kd.S_drew)); exact HO_4.out⟩, ⟨by (with_reducible repeat (first | apply Kd.R_alloc | apply Kd.R_drewN | apply Kd.R_drew)); exact HO_5.out⟩, ⟨by (with_reducible repeat (first | apply Kd.R_alloc | apply Kd.R_drewN | apply Kd.R_drew)); exact HO_7.out⟩, ⟨by repeat (first | (with_reducible exact HR442_2.out) | (with_reducible refine Kd.C_alloc ?_ _) | (with_reducible refine Kd.C_drewN ?_ _) | (with_reducible refine Kd.C_drew ?_) | exact HR442_2.out)⟩, ⟨by repeat (first | (with_reducible first | exact HB.out | apply below_alloc | apply pw_below_drewN | apply below_drew1) | exact HB.out)⟩⟩
                                        case round =>
                                          clear H'
                                          try clear c1
                                          try clear c2
                                          try clear p2
                                          try clear c3
                                          try clear c4
                                          try clear p4
                                          try clear q4
                                          try clear hx4
                                          try clear p6
                                          try clear c9
                                          try clear c13
                                          try clear c13b0
                                          try clear c13b1
                                          try clear c16
                                          try clear c17
                                          try clear c17b0
                                          try clear c18
                                          try clear c18b0
                                          try clear c21
                                          try clear c21b0
                                          try clear c22
                                          try clear c22b0
                                          try clear c23
                                          try clear c23b0
                                          try clear c24
                                          try clear c24b0
                                          try clear c27
                                          try clear c29
                                          try clear c29b0
                                          try clear c30
                                          try clear c30b0
                                          try clear c31
                                          try clear c31b0
                                          try clear c32
                                          try clear c33
                                          try clear c33b0
                                          try clear c34
                                          try clear c34b0
                                          try clear c35
                                          try clear c35b0
                                          try clear c36
                                          try clear c36b0
                                          try clear c36b1
                                          try clear c36b2
                                          try clear c37
                                          try clear c37b0
                                          try clear c38
                                          try clear c38b0
                                          try clear hx437_0
                                          try clear hx438_0
                                          try clear hx439_0
                                          try clear hx440_0
                                          try clear hx440_1
                                          try clear hx440_2
                                          try clear hx440_3
                                          try clear hx440_4
                                          try clear hx440_5
                                          try clear hx440_6
                                          try clear hx440_7
                                          try clear hx441_0
                                          try clear hx441_1
                                          try clear hx441_2
                                          try clear hx441_3
                                          try clear hx441_4
                                          try clear hx441_5
                                          try clear hx441_6
                                          try clear hx441_7
                                          try clear hx442_0
                                          try clear hx442_1
                                          try clear hx442_2
                                          try clear hx442_3
                                          try clear hx442_4
                                          try clear hx442_5
                                          try clear hx442_6
                                          try clear hx442_7
                                          try clear p2
                                          try clear p4
                                          try clear p437
                                          try clear p438
                                          try clear p439
                                          try clear p440
                                          try clear p441
                                          try clear p442
                                          try clear p6
                                          try clear q4
                                          try clear q437
                                          try clear q438
                                          try clear q439
                                          try clear q440
                                          try clear q441
                                          try clear q442
                                          obtain ⟨x13_6, x14_6, rfl, rfl, HA, HK6, HO_4, HO_5, HO_7, HR442_2, HB⟩ := hrel
                                          cases gk with
                                          | zero => exact absurd HA.out (by simp [partitalaw10_TurnsSteps.l2])
                                          | succ k6 =>
                                            have H := HA.out
                                            clear HA
                                            simp only [partitalaw10_TurnsSteps.l2] at H
                                            by_cases c39 : 0 ≤ (rd t429 x10_2)
                                            · rw [if_pos c39] at H
                                              have c39b0 : decide (0 ≤ (rd t429 x10_2)) = true := decide_eq_true c39
                                              clear c39
                                              by_cases c40 : (rd t429 x10_2) < (t426.length : Int)
                                              · rw [if_pos c40] at H
                                                have c40b0 : decide ((rd t429 x10_2) < (t426.length : Int)) = true := decide_eq_true c40
                                                clear c40
                                                by_cases c41 : x14_6 < (((rd_T38 t426 (rd t429 x10_2)).f2).length : Int)
                                                · rw [if_pos c41] at H
                                                  have c41b0 : decide (x14_6 < (((rd_T38 t426 (rd t429 x10_2)).f2).length : Int)) = true := decide_eq_true c41
                                                  clear c41
                                                  by_cases c42 : x13_6 = true
                                                  · subst c42
                                                    have H1 : (partitalaw10_TurnsSteps.l2 k6 true t426 t429 t430 t433 x10_2 (rd t429 x10_2) true (wrap64 (x14_6 + 1))) = some r := by rw [if_pos rfl] at H; exact H
                                                    clear H
                                                    have H := H1
                                                    clear H1
                                                    have H' := Aside0.mk H
                                                    clear H
                                                    have p443 : 0 ≤ ((rd t429 x10_2) : Int) := of_decide_eq_true (by first | (with_reducible assumption) | assumption)
                                                    have q443 : (rd t429 x10_2) < (t426.length : Int) := of_decide_eq_true (by first | (with_reducible assumption) | assumption)
                                                    obtain ⟨ad443, A443_2, c443_2, e443, hx443_0, hx443_1, hx443_2, hx443_3, hx443_4, hx443_5, hx443_6, hx443_7, hl443_2, hi443_2⟩ := at_T38 (Kd.S_reads' HO_4.out).2.2 (rd t429 x10_2) p443 q443
                                                    obtain rfl : ad442 = ad443 := (by injection e443)
                                                    obtain ⟨ce443, hce443, hMe443, hcc443⟩ := Kd.S_get HO_4.out z38 (rd t429 x10_2) p443 (by first | exact q443 | exact of_decide_eq_true (by first | (with_reducible assumption) | assumption) | (have e_ := (Kd.S_reads' HO_4.out).1; omega))
                                                    obtain ⟨ve443_2, rfl, ge443_2⟩ := k38_openM hMe443
                                                    have hv443_2 := hcc443 2 _ rfl
                                                    rw [add_field _ _ 2 (by omega)] at hv443_2
                                                    replace hv443_2 := Option.some.inj (hv443_2.symm.trans hx443_2)
                                                    rw [hv443_2] at ge443_2
                                                    have HL443_2 := Aside0.mk (show Kd.R (Kd.int .i64) 3 _ _ _ _ ((rd_T38 t426 (rd t429 x10_2)).f2) from ge443_2)
                                                    clear hv443_2 ge443_2
                                                    clear hcc443 hce443
                                                    have HR443_2 := Aside0.mk hi443_2
                                                    have HC443_2 := Aside0.mk hl443_2
                                                    clear hi443_2 hl443_2
                                                    replace p443 := eq_true p443
                                                    replace q443 := eq_true q443
                                                    go_wp2
                                                    repeat (go_quiet (fail); try go_wp2)
                                                    go_roundg k6
                                                    case measure => have := HJ6.out; have := HK2.out; have := HJ18.out; have := HJ27.out; have := HK5.out; have := HK6.out; omega
                                                    case rel => exact ⟨(true), (wrap64 (x14_6 + 1)), (by first | rfl | (simp; done) | (simp [*]; done)), (by first | rfl | (simp; done) | (simp [*]; done)), H', ⟨by have := HJ6.out; have := HK2.out; have := HJ18.out; have := HJ27.out; have := HK5.out; have := HK6.out; omega⟩, ⟨by (with_reducible repeat (first | apply Kd.S_alloc | apply Kd.S_drewN | apply Kd.S_drew)); exact HO_4.out⟩, ⟨by (with_reducible repeat (first | apply Kd.R_alloc | apply Kd.R_drewN | apply Kd.R_drew)); exact HO_5.out⟩, ⟨by (with_reducible repeat (first | apply Kd.R_alloc | apply Kd.R_drewN | apply Kd.R_drew)); exact HO_7.out⟩, ⟨by repeat (first | (with_reducible exact HR442_2.out) | (with_reducible refine Kd.C_alloc ?_ _) | (with_reducible refine Kd.C_drewN ?_ _) | (with_reducible refine Kd.C_drew ?_) | exact HR442_2.out)⟩, ⟨by repeat (first | (with_reducible first | exact HB.out | apply below_alloc | apply pw_below_drewN | apply below_drew1) | exact HB.out)⟩⟩
                                                  · replace c42 := Bool.eq_false_iff.mpr c42
                                                    subst c42
                                                    have H1 : (if 0 ≤ x14_6 then (if 0 ≤ x10_2 then (if x10_2 < (t433.length : Int) then (partitalaw10_TurnsSteps.l2 k6 true t426 t429 t430 t433 x10_2 (rd t429 x10_2) ((rd ((rd_T38 t426 (rd t429 x10_2)).f2) x14_6) == (rd t433 x10_2)) (wrap64 (x14_6 + 1))) else (none)) else (none)) else (none)) = some r := by rw [if_neg (show ¬ (false = true) by decide)] at H; exact H
                                                    clear H
                                                    have H := H1
                                                    clear H1
                                                    by_cases c43 : 0 ≤ x14_6
                                                    · rw [if_pos c43] at H
                                                      have c43b0 : decide (0 ≤ x14_6) = true := decide_eq_true c43
                                                      clear c43
                                                      by_cases c44 : 0 ≤ x10_2
                                                      · rw [if_pos c44] at H
                                                        have c44b0 : decide (0 ≤ x10_2) = true := decide_eq_true c44
                                                        clear c44
                                                        by_cases c45 : x10_2 < (t433.length : Int)
                                                        · rw [if_pos c45] at H
                                                          have c45b0 : decide (x10_2 < (t433.length : Int)) = true := decide_eq_true c45
                                                          clear c45
                                                          have H' := Aside0.mk H
                                                          clear H
                                                          have p443 : 0 ≤ ((rd t429 x10_2) : Int) := of_decide_eq_true (by first | (with_reducible assumption) | assumption)
                                                          have q443 : (rd t429 x10_2) < (t426.length : Int) := of_decide_eq_true (by first | (with_reducible assumption) | assumption)
                                                          obtain ⟨ad443, A443_2, c443_2, e443, hx443_0, hx443_1, hx443_2, hx443_3, hx443_4, hx443_5, hx443_6, hx443_7, hl443_2, hi443_2⟩ := at_T38 (Kd.S_reads' HO_4.out).2.2 (rd t429 x10_2) p443 q443
                                                          obtain rfl : ad442 = ad443 := (by injection e443)
                                                          obtain ⟨ce443, hce443, hMe443, hcc443⟩ := Kd.S_get HO_4.out z38 (rd t429 x10_2) p443 (by first | exact q443 | exact of_decide_eq_true (by first | (with_reducible assumption) | assumption) | (have e_ := (Kd.S_reads' HO_4.out).1; omega))
                                                          obtain ⟨ve443_2, rfl, ge443_2⟩ := k38_openM hMe443
                                                          have hv443_2 := hcc443 2 _ rfl
                                                          rw [add_field _ _ 2 (by omega)] at hv443_2
                                                          replace hv443_2 := Option.some.inj (hv443_2.symm.trans hx443_2)
                                                          rw [hv443_2] at ge443_2
                                                          have HL443_2 := Aside0.mk (show Kd.R (Kd.int .i64) 3 _ _ _ _ ((rd_T38 t426 (rd t429 x10_2)).f2) from ge443_2)
                                                          clear hv443_2 ge443_2
                                                          clear hcc443 hce443
                                                          have HR443_2 := Aside0.mk hi443_2
                                                          have HC443_2 := Aside0.mk hl443_2
                                                          clear hi443_2 hl443_2
                                                          replace p443 := eq_true p443
                                                          replace q443 := eq_true q443
                                                          have p444 : 0 ≤ ((rd t429 x10_2) : Int) := of_decide_eq_true (by first | (with_reducible assumption) | assumption)
                                                          have q444 : (rd t429 x10_2) < (t426.length : Int) := of_decide_eq_true (by first | (with_reducible assumption) | assumption)
                                                          obtain ⟨ad444, A444_2, c444_2, e444, hx444_0, hx444_1, hx444_2, hx444_3, hx444_4, hx444_5, hx444_6, hx444_7, hl444_2, hi444_2⟩ := at_T38 (Kd.S_reads' HO_4.out).2.2 (rd t429 x10_2) p444 q444
                                                          obtain rfl : ad442 = ad444 := (by injection e444)
                                                          obtain ⟨ce444, hce444, hMe444, hcc444⟩ := Kd.S_get HO_4.out z38 (rd t429 x10_2) p444 (by first | exact q444 | exact of_decide_eq_true (by first | (with_reducible assumption) | assumption) | (have e_ := (Kd.S_reads' HO_4.out).1; omega))
                                                          obtain ⟨ve444_2, rfl, ge444_2⟩ := k38_openM hMe444
                                                          have hv444_2 := hcc444 2 _ rfl
                                                          rw [add_field _ _ 2 (by omega)] at hv444_2
                                                          replace hv444_2 := Option.some.inj (hv444_2.symm.trans hx444_2)
                                                          rw [hv444_2] at ge444_2
                                                          have HL444_2 := Aside0.mk (show Kd.R (Kd.int .i64) 3 _ _ _ _ ((rd_T38 t426 (rd t429 x10_2)).f2) from ge444_2)
                                                          clear hv444_2 ge444_2
                                                          clear hcc444 hce444
                                                          have HR444_2 := Aside0.mk hi444_2
                                                          have HC444_2 := Aside0.mk hl444_2
                                                          clear hi444_2 hl444_2
                                                          replace p444 := eq_true p444
                                                          replace q444 := eq_true q444
                                                          have ea_ := Option.some.inj (hx443_2.symm.trans hx444_2)
                                                          injection ea_ with ea_ en_ ec_
                                                          subst ea_
                                                          subst ec_
                                                          clear en_
                                                          have p445 : 0 ≤ (x14_6 : Int) := of_decide_eq_true (by first | (with_reducible assumption) | assumption)
                                                          have q445 : x14_6 < (((rd_T38 t426 (rd t429 x10_2)).f2).length : Int) := of_decide_eq_true (by first | (with_reducible assumption) | assumption)
                                                          obtain ⟨ad445, e445, hx445_0⟩ := Kd.at_int (by repeat (first | (with_reducible exact HR444_2.out) | (with_reducible refine Kd.C_alloc ?_ _) | (with_reducible refine Kd.C_drewN ?_ _) | (with_reducible refine Kd.C_drew ?_) | exact HR444_2.out)) x14_6 p445 q445
                                                          cases e445
                                                          replace p445 := eq_true p445
                                                          replace q445 := eq_true q445
                                                          obtain ⟨Ao46, co46, eo46⟩ := Kd.R_slice HO_7.out
                                                          subst eo46
                                                          have p446 : 0 ≤ (x10_2 : Int) := of_decide_eq_true (by first | (with_reducible assumption) | assumption)
                                                          have q446 : x10_2 < (t433.length : Int) := of_decide_eq_true (by first | (with_reducible assumption) | assumption)
                                                          obtain ⟨ad446, e446, hx446_0⟩ := Kd.at_int (Kd.R_reads' HO_7.out).2.2 x10_2 p446 q446
                                                          cases e446
                                                          replace p446 := eq_true p446
                                                          replace q446 := eq_true q446
                                                          go_wp2
                                                          repeat (go_quiet (fail); try go_wp2)
                                                          go_roundg k6
                                                          case measure => have := HJ6.out; have := HK2.out; have := HJ18.out; have := HJ27.out; have := HK5.out; have := HK6.out; omega
                                                          case rel => exact ⟨(((rd ((rd_T38 t426 (rd t429 x10_2)).f2) x14_6) == (rd t433 x10_2))), (wrap64 (x14_6 + 1)), (by first | rfl | (simp; done) | (simp [*]; done)), (by first | rfl | (simp; done) | (simp [*]; done)), H', ⟨by have := HJ6.out; have := HK2.out; have := HJ18.out; have := HJ27.out; have := HK5.out; have := HK6.out; omega⟩, ⟨by (with_reducible repeat (first | apply Kd.S_alloc | apply Kd.S_drewN | apply Kd.S_drew)); exact HO_4.out⟩, ⟨by (with_reducible repeat (first | apply Kd.R_alloc | apply Kd.R_drewN | apply Kd.R_drew)); exact HO_5.out⟩, ⟨by (with_reducible repeat (first | apply Kd.R_alloc | apply Kd.R_drewN | apply Kd.R_drew)); exact HO_7.out⟩, ⟨by repeat (first | (with_reducible exact HR442_2.out) | (with_reducible refine Kd.C_alloc ?_ _) | (with_reducible refine Kd.C_drewN ?_ _) | (with_reducible refine Kd.C_drew ?_) | exact HR442_2.out)⟩, ⟨by repeat (first | (with_reducible first | exact HB.out | apply below_alloc | apply pw_below_drewN | apply below_drew1) | exact HB.out)⟩⟩
                                                        · rw [if_neg c45] at H
                                                          exact absurd H (by simp)
                                                      · rw [if_neg c44] at H
                                                        exact absurd H (by simp)
                                                    · rw [if_neg c43] at H
                                                      exact absurd H (by simp)
                                                · rw [if_neg c41] at H
                                                  have c41b0 : decide (x14_6 < (((rd_T38 t426 (rd t429 x10_2)).f2).length : Int)) = false := decide_eq_false c41
                                                  clear c41
                                                  by_cases c47 : x13_6 = true
                                                  · subst c47
                                                    have H1 : (partitalaw10_TurnsSteps.l0 k6 true t426 t429 t430 t433 (rd t429 x10_2) (wrap64 (x10_2 + 1))) = some r := by rw [if_pos rfl] at H; exact H
                                                    clear H
                                                    have H := H1
                                                    clear H1
                                                    have H' := Aside0.mk H
                                                    clear H
                                                    have p443 : 0 ≤ ((rd t429 x10_2) : Int) := of_decide_eq_true (by first | (with_reducible assumption) | assumption)
                                                    have q443 : (rd t429 x10_2) < (t426.length : Int) := of_decide_eq_true (by first | (with_reducible assumption) | assumption)
                                                    obtain ⟨ad443, A443_2, c443_2, e443, hx443_0, hx443_1, hx443_2, hx443_3, hx443_4, hx443_5, hx443_6, hx443_7, hl443_2, hi443_2⟩ := at_T38 (Kd.S_reads' HO_4.out).2.2 (rd t429 x10_2) p443 q443
                                                    obtain rfl : ad442 = ad443 := (by injection e443)
                                                    obtain ⟨ce443, hce443, hMe443, hcc443⟩ := Kd.S_get HO_4.out z38 (rd t429 x10_2) p443 (by first | exact q443 | exact of_decide_eq_true (by first | (with_reducible assumption) | assumption) | (have e_ := (Kd.S_reads' HO_4.out).1; omega))
                                                    obtain ⟨ve443_2, rfl, ge443_2⟩ := k38_openM hMe443
                                                    have hv443_2 := hcc443 2 _ rfl
                                                    rw [add_field _ _ 2 (by omega)] at hv443_2
                                                    replace hv443_2 := Option.some.inj (hv443_2.symm.trans hx443_2)
                                                    rw [hv443_2] at ge443_2
                                                    have HL443_2 := Aside0.mk (show Kd.R (Kd.int .i64) 3 _ _ _ _ ((rd_T38 t426 (rd t429 x10_2)).f2) from ge443_2)
                                                    clear hv443_2 ge443_2
                                                    clear hcc443 hce443
                                                    have HR443_2 := Aside0.mk hi443_2
                                                    have HC443_2 := Aside0.mk hl443_2
                                                    clear hi443_2 hl443_2
                                                    replace p443 := eq_true p443
                                                    replace q443 := eq_true q443
                                                    go_wp2
                                                    repeat (go_quiet (fail); try go_wp2)
                                                    go_roundg k6
                                                    case measure => have := HJ6.out; have := HK2.out; have := HJ18.out; have := HJ27.out; have := HK5.out; have := HK6.out; omega
                                                    case rel => exact ⟨((rd t429 x10_2)), (wrap64 (x10_2 + 1)), (by first | rfl | (simp; done) | (simp [*]; done)), (by first | rfl | (simp; done) | (simp [*]; done)), H', ⟨by have := HJ6.out; have := HK2.out; have := HJ18.out; have := HJ27.out; have := HK5.out; have := HK6.out; omega⟩, ⟨by (with_reducible repeat (first | apply Kd.S_alloc | apply Kd.S_drewN | apply Kd.S_drew)); exact HO_4.out⟩, ⟨by (with_reducible repeat (first | apply Kd.R_alloc | apply Kd.R_drewN | apply Kd.R_drew)); exact HO_5.out⟩, ⟨by (with_reducible repeat (first | apply Kd.R_alloc | apply Kd.R_drewN | apply Kd.R_drew)); exact HO_7.out⟩, ⟨by repeat (first | (with_reducible first | exact HB.out | apply below_alloc | apply pw_below_drewN | apply below_drew1) | exact HB.out)⟩⟩
                                                  · replace c47 := Bool.eq_false_iff.mpr c47
                                                    subst c47
                                                    have H1 : (some false) = some r := by rw [if_neg (show ¬ (false = true) by decide)] at H; exact H
                                                    clear H
                                                    have H := H1
                                                    clear H1
                                                    obtain rfl := Option.some.inj H
                                                    have p443 : 0 ≤ ((rd t429 x10_2) : Int) := of_decide_eq_true (by first | (with_reducible assumption) | assumption)
                                                    have q443 : (rd t429 x10_2) < (t426.length : Int) := of_decide_eq_true (by first | (with_reducible assumption) | assumption)
                                                    obtain ⟨ad443, A443_2, c443_2, e443, hx443_0, hx443_1, hx443_2, hx443_3, hx443_4, hx443_5, hx443_6, hx443_7, hl443_2, hi443_2⟩ := at_T38 (Kd.S_reads' HO_4.out).2.2 (rd t429 x10_2) p443 q443
                                                    obtain rfl : ad442 = ad443 := (by injection e443)
                                                    obtain ⟨ce443, hce443, hMe443, hcc443⟩ := Kd.S_get HO_4.out z38 (rd t429 x10_2) p443 (by first | exact q443 | exact of_decide_eq_true (by first | (with_reducible assumption) | assumption) | (have e_ := (Kd.S_reads' HO_4.out).1; omega))
                                                    obtain ⟨ve443_2, rfl, ge443_2⟩ := k38_openM hMe443
                                                    have hv443_2 := hcc443 2 _ rfl
                                                    rw [add_field _ _ 2 (by omega)] at hv443_2
                                                    replace hv443_2 := Option.some.inj (hv443_2.symm.trans hx443_2)
                                                    rw [hv443_2] at ge443_2
                                                    have HL443_2 := Aside0.mk (show Kd.R (Kd.int .i64) 3 _ _ _ _ ((rd_T38 t426 (rd t429 x10_2)).f2) from ge443_2)
                                                    clear hv443_2 ge443_2
                                                    clear hcc443 hce443
                                                    have HR443_2 := Aside0.mk hi443_2
                                                    have HC443_2 := Aside0.mk hl443_2
                                                    clear hi443_2 hl443_2
                                                    replace p443 := eq_true p443
                                                    replace q443 := eq_true q443
                                                    go_wp2
                                                    repeat (go_quiet (fail); try go_wp2)
                                                    go_ret
                                                    exact ⟨by first | rfl | (simp [errW_none, errW_some] <;> rfl) | (simp [*, errW_none, errW_some] <;> rfl), by repeat (first | (with_reducible first | exact HB.out | apply below_alloc | apply pw_below_drewN | apply below_drew1) | exact HB.out)⟩
                                              · rw [if_neg c40] at H
                                                exact absurd H (by simp)
                                            · rw [if_neg c39] at H
                                              exact absurd H (by simp)
                                      · rw [if_neg c38] at H
                                        exact absurd H (by simp)
                                    · rw [if_neg c37] at H
                                      exact absurd H (by simp)
                · rw [if_neg c18] at H
                  exact absurd H (by simp)
              · rw [if_neg c17] at H
                have c17b0 : decide (x10_2 < (t429.length : Int)) = false := decide_eq_false c17
                clear c17
                by_cases c48 : true = true
                · clear c48
                  have H1 : (if t430 = 0 then (some true) else (if t430 = 101 then (some ((t429.length : Int) == 0)) else (some false))) = some r := by first | (rw [if_pos rfl] at H; exact H) | (rw [if_pos trivial] at H; exact H)
                  clear H
                  have H := H1
                  clear H1
                  by_cases c49 : t430 = 0
                  · rw [if_pos c49] at H
                    have c49b0 : (t430 == 0) = true := beq_iff_eq.mpr c49
                    have c49b1 : (t430 != 0) = false := bne_eq_false_iff_eq.mpr c49
                    clear c49
                    obtain rfl := Option.some.inj H
                    obtain ⟨Ao50, co50, eo50⟩ := Kd.R_slice HO_5.out
                    subst eo50
                    go_wp2
                    repeat (go_quiet (fail); try go_wp2)
                    go_ret
                    exact ⟨by first | rfl | (simp [errW_none, errW_some] <;> rfl) | (simp [*, errW_none, errW_some] <;> rfl), by repeat (first | (with_reducible first | exact HB.out | apply below_alloc | apply pw_below_drewN | apply below_drew1) | exact HB.out)⟩
                  · rw [if_neg c49] at H
                    have c49b0 : (t430 == 0) = false := beq_eq_false_iff_ne.mpr c49
                    have c49b1 : (t430 != 0) = true := bne_iff_ne.mpr c49
                    by_cases c51 : t430 = 101
                    · rw [if_pos c51] at H
                      have c51b0 : (t430 == 101) = true := beq_iff_eq.mpr c51
                      have c51b1 : (t430 != 101) = false := bne_eq_false_iff_eq.mpr c51
                      clear c51
                      obtain rfl := Option.some.inj H
                      obtain ⟨Ao52, co52, eo52⟩ := Kd.R_slice HO_5.out
                      subst eo52
                      go_wp2
                      repeat (go_quiet (fail); try go_wp2)
                      go_ret
                      exact ⟨by first | rfl | (simp [errW_none, errW_some] <;> rfl) | (simp [*, errW_none, errW_some] <;> rfl), by repeat (first | (with_reducible first | exact HB.out | apply below_alloc | apply pw_below_drewN | apply below_drew1) | exact HB.out)⟩
                    · rw [if_neg c51] at H
                      have c51b0 : (t430 == 101) = false := beq_eq_false_iff_ne.mpr c51
                      have c51b1 : (t430 != 101) = true := bne_iff_ne.mpr c51
                      obtain rfl := Option.some.inj H
                      obtain ⟨Ao53, co53, eo53⟩ := Kd.R_slice HO_5.out
                      subst eo53
                      go_wp2
                      repeat (go_quiet (fail); try go_wp2)
                      go_ret
                      exact ⟨by first | rfl | (simp [errW_none, errW_some] <;> rfl) | (simp [*, errW_none, errW_some] <;> rfl), by repeat (first | (with_reducible first | exact HB.out | apply below_alloc | apply pw_below_drewN | apply below_drew1) | exact HB.out)⟩
                · exact absurd rfl c48
  · replace c3 := Bool.eq_false_iff.mpr c3
    subst c3
    have H1 : (some false) = some r := by rw [if_neg (show ¬ (false = true) by decide)] at H; exact H
    clear H
    have H := H1
    clear H1
    obtain rfl := Option.some.inj H
    go_enter Try.func9, Try.ntmps9
    go_wp2_with (first | (go_at_call 11; (with_reducible refine (partitalaw10_examples.calls k  false _ A2.out).mono ?_); rintro e w55 ⟨rfl, hb⟩; have n0_ := Aside0.mk (below_step (by repeat (first | (with_reducible first | exact HB.out | apply below_alloc | apply pw_below_drewN | apply below_drew1) | exact HB.out)) hb); clear HB; have HB := n0_; clear n0_; (try clear hb); (try clear hb2); (try clear hk); (try clear hi)))
    repeat (go_quiet (first | (go_at_call 11; (with_reducible refine (partitalaw10_examples.calls k  false _ A2.out).mono ?_); rintro e w55 ⟨rfl, hb⟩; have n0_ := Aside0.mk (below_step (by repeat (first | (with_reducible first | exact HB.out | apply below_alloc | apply pw_below_drewN | apply below_drew1) | exact HB.out)) hb); clear HB; have HB := n0_; clear n0_; (try clear hb); (try clear hb2); (try clear hk); (try clear hi))); try go_wp2_with (first | (go_at_call 11; (with_reducible refine (partitalaw10_examples.calls k  false _ A2.out).mono ?_); rintro e w55 ⟨rfl, hb⟩; have n0_ := Aside0.mk (below_step (by repeat (first | (with_reducible first | exact HB.out | apply below_alloc | apply pw_below_drewN | apply below_drew1) | exact HB.out)) hb); clear HB; have HB := n0_; clear n0_; (try clear hb); (try clear hb2); (try clear hk); (try clear hi))))
    go_ret
    exact ⟨by first | rfl | (simp [errW_none, errW_some] <;> rfl) | (simp [*, errW_none, errW_some] <;> rfl), by repeat (first | (with_reducible first | exact HB.out | apply below_alloc | apply pw_below_drewN | apply below_drew1) | exact HB.out)⟩

end Go.Proofs.Ytendmmagjjhfnaa.M
