/- Printed by a program of this session (wip/tools), out of the translation: functions with the same answers as the Go code, and the contracts of the code. Lean checks it. -/
import Derived.Test.YtendmmagjjhfnaaM0
import Derived.Test.YtendmmagjjhfnaaM19
import Derived.Test.YtendmmagjjhfnaaM21
import Derived.Test.YtendmmagjjhfnaaM22
import Derived.Test.YtendmmagjjhfnaaM30
import Derived.Test.YtendmmagjjhfnaaM31
namespace Go.Proofs.Ytendmmagjjhfnaa.M
open Go.RowKit Go.Proofs.YtendmmagjjhfnaaW.PrintWords Go.Proofs.YtendmmagjjhfnaaW.PrintLast Go.Proofs.YtendmmagjjhfnaaW.PrintMore
attribute [local go_sem] max2_int min2_int max_two min_two max_three min_three max_four min_four   -- for this text's walks alone
set_option linter.unusedVariables false
set_option linter.unusedSimpArgs false

/-! ### partitalaw10_TurnsJumps: function 7 -/
mutual
def partitalaw10_TurnsJumps.l0 : Nat → Bool → Int → Int → Int → Int → Int → Int → Option (Bool)
  | 0, _, _, _, _, _, _, _ => none
  | k + 1, x11, x12, x13, x14, x15, x16, x17 => if x17 ≤ 6 then ((partitalaw10_many.f x12).bind fun t363 => (if 0 ≤ x13 then (if x13 < (t363.length : Int) then ((some (t363.set (x13 : Int).toNat (⟨(rd_T38 t363 x13).f0, (rd_T38 t363 x13).f1, (rd_T38 t363 x13).f2, (rd_T38 t363 x13).f3, (rd_T38 t363 x13).f4, (rd_T38 t363 x13).f5, (rd_T38 t363 x13).f6, x17⟩ : S38) : List (S38))).bind fun y366 => (if 0 ≤ x14 then (if x14 < (t363.length : Int) then ((some (y366.set (x14 : Int).toNat (⟨(rd_T38 y366 x14).f0, (rd_T38 y366 x14).f1, (rd_T38 y366 x14).f2, true, (rd_T38 y366 x14).f4, (rd_T38 y366 x14).f5, (rd_T38 y366 x14).f6, (rd_T38 y366 x14).f7⟩ : S38) : List (S38))).bind fun y367 => (if 0 ≤ x15 then (if x15 < (t363.length : Int) then ((some (y367.set (x15 : Int).toNat (⟨(rd_T38 y367 x15).f0, (rd_T38 y367 x15).f1, (rd_T38 y367 x15).f2, (rd_T38 y367 x15).f3, (rd_T38 y367 x15).f4, (rd_T38 y367 x15).f5, true, (rd_T38 y367 x15).f7⟩ : S38) : List (S38))).bind fun y368 => ((some (y368.set (x15 : Int).toNat (⟨(rd_T38 y368 x15).f0, (rd_T38 y368 x15).f1, (rd_T38 y368 x15).f2, (rd_T38 y368 x15).f3, (rd_T38 y368 x15).f4, true, (rd_T38 y368 x15).f6, (rd_T38 y368 x15).f7⟩ : S38) : List (S38))).bind fun y369 => (if 0 ≤ x16 then (if x16 < (t363.length : Int) then ((some (y369.set (x16 : Int).toNat (⟨(rd_T38 y369 x16).f0, (rd_T38 y369 x16).f1, (rd_T38 y369 x16).f2, (rd_T38 y369 x16).f3, true, (rd_T38 y369 x16).f5, (rd_T38 y369 x16).f6, (rd_T38 y369 x16).f7⟩ : S38) : List (S38))).bind fun y370 => (if x17 ≥ 4 then (partitalaw10_TurnsJumps.j1 k x11 x12 x13 x14 x15 x16 x17 y370 x14) else (partitalaw10_TurnsJumps.j1 k x11 x12 x13 x14 x15 x16 x17 y370 0))) else (none)) else (none)))) else (none)) else (none))) else (none)) else (none))) else (none)) else (none))) else (some x11)
def partitalaw10_TurnsJumps.j1 : Nat → Bool → Int → Int → Int → Int → Int → Int → List (S38) → Int → Option (Bool)
  | 0, _, _, _, _, _, _, _, _, _ => none
  | k + 1, x11, x12, x13, x14, x15, x16, x17, x18, x19 => (partitalaw10_rising.f k 0 (wrap64 (x13 + 1))).bind fun t371 => ((partitalaw10_rising.f k x19 x12).bind fun t374 => (if t371.length + t374.length < 17592186044416 then ((some (t371 ++ t374 : List Int)).bind fun y377 => (if x17 = 2 then (partitalaw10_TurnsJumps.j2 k x11 x12 x13 x14 x15 x16 x17 x18 x19 y377 true) else (partitalaw10_TurnsJumps.j2 k x11 x12 x13 x14 x15 x16 x17 x18 x19 y377 (x17 == 5)))) else (none)))
def partitalaw10_TurnsJumps.j2 : Nat → Bool → Int → Int → Int → Int → Int → Int → List (S38) → Int → List Int → Bool → Option (Bool)
  | 0, _, _, _, _, _, _, _, _, _, _, _ => none
  | k + 1, x11, x12, x13, x14, x15, x16, x17, x18, x19, x20, x93 => if x93 = true then ((partitalaw10_rising.f k 0 (wrap64 (x13 + 1))).bind fun t380 => ((partitalaw10_rising.f k x19 (wrap64 (x15 + 1))).bind fun t383 => (if t380.length + t383.length < 17592186044416 then (partitalaw10_TurnsJumps.j3 k x11 x12 x13 x14 x15 x16 x17 x18 x19 (t380 ++ t383)) else (none)))) else (partitalaw10_TurnsJumps.j3 k x11 x12 x13 x14 x15 x16 x17 x18 x19 x20)
def partitalaw10_TurnsJumps.j3 : Nat → Bool → Int → Int → Int → Int → Int → Int → List (S38) → Int → List Int → Option (Bool)
  | 0, _, _, _, _, _, _, _, _, _, _ => none
  | k + 1, x11, x12, x13, x14, x15, x16, x17, x18, x19, x20 => if x17 = 3 then (partitalaw10_TurnsJumps.j4 k x11 x12 x13 x14 x15 x16 x17 x18 x19 x20 true) else (partitalaw10_TurnsJumps.j4 k x11 x12 x13 x14 x15 x16 x17 x18 x19 x20 (x17 == 6))
def partitalaw10_TurnsJumps.j4 : Nat → Bool → Int → Int → Int → Int → Int → Int → List (S38) → Int → List Int → Bool → Option (Bool)
  | 0, _, _, _, _, _, _, _, _, _, _, _ => none
  | k + 1, x11, x12, x13, x14, x15, x16, x17, x18, x19, x20, x107 => if x107 = true then ((partitalaw10_rising.f k 0 (wrap64 (x13 + 1))).bind fun t389 => ((partitalaw10_rising.f k x19 (wrap64 (x15 + 1))).bind fun t392 => (if t389.length + t392.length < 17592186044416 then ((some (t389 ++ t392 : List Int)).bind fun y395 => ((partitalaw10_rising.f k x16 x12).bind fun t398 => (if y395.length + t398.length < 17592186044416 then (partitalaw10_TurnsJumps.j5 k x11 x12 x13 x14 x15 x16 x17 x18 (y395 ++ t398)) else (none)))) else (none)))) else (partitalaw10_TurnsJumps.j5 k x11 x12 x13 x14 x15 x16 x17 x18 x20)
def partitalaw10_TurnsJumps.j5 : Nat → Bool → Int → Int → Int → Int → Int → Int → List (S38) → List Int → Option (Bool)
  | 0, _, _, _, _, _, _, _, _, _ => none
  | k + 1, x11, x12, x13, x14, x15, x16, x17, x18, x20 => (turns_Unfold.f k x18).bind fun bt404 => (if bt404.2 = 0 then ((partitalaw10_ints.f k bt404.1 x20).bind fun t408 => (if t408 = true then (partitalaw10_TurnsJumps.l0 k x11 x12 x13 x14 x15 x16 (wrap64 (x17 + 1))) else (some false))) else (some false))
end
def partitalaw10_TurnsJumps.f (k : Nat) (a0 : Int) (a1 : Int) (a2 : Int) (a3 : Int) (a4 : Int) : Option (Bool) := (partitalaw10_examples.f k).bind fun t362 => (if t362 = true then (if (wrap64 (1 + (wrap64 (Int.tmod a0 60)))) = 0 then (none) else (if (wrap64 ((Int.tmod (wrap64 (a1)) (wrap64 (1 + (wrap64 (Int.tmod a0 60))))) + 1)) = 0 then (none) else (if (wrap64 ((wrap64 (1 + (wrap64 (Int.tmod a0 60)))) - (Int.tmod (wrap64 (a2)) (wrap64 ((Int.tmod (wrap64 (a1)) (wrap64 (1 + (wrap64 (Int.tmod a0 60))))) + 1))))) = 0 then (none) else (partitalaw10_TurnsJumps.l0 k t362 (wrap64 (1 + (wrap64 (Int.tmod a0 60)))) (Int.tmod (wrap64 (a1)) (wrap64 (1 + (wrap64 (Int.tmod a0 60))))) (Int.tmod (wrap64 (a2)) (wrap64 ((Int.tmod (wrap64 (a1)) (wrap64 (1 + (wrap64 (Int.tmod a0 60))))) + 1))) (wrap64 ((Int.tmod (wrap64 (a2)) (wrap64 ((Int.tmod (wrap64 (a1)) (wrap64 (1 + (wrap64 (Int.tmod a0 60))))) + 1))) + (Int.tmod (wrap64 (a3)) (wrap64 ((wrap64 (1 + (wrap64 (Int.tmod a0 60)))) - (Int.tmod (wrap64 (a2)) (wrap64 ((Int.tmod (wrap64 (a1)) (wrap64 (1 + (wrap64 (Int.tmod a0 60))))) + 1)))))))) (Int.tmod (wrap64 (a4)) (wrap64 (1 + (wrap64 (Int.tmod a0 60))))) 1)))) else (some false))
theorem partitalaw10_TurnsJumps.mono_l : ∀ k, (∀ y0 y1 y2 y3 y4 y5 y6, LeO (partitalaw10_TurnsJumps.l0 k y0 y1 y2 y3 y4 y5 y6) (partitalaw10_TurnsJumps.l0 (k + 1) y0 y1 y2 y3 y4 y5 y6)) ∧ (∀ y0 y1 y2 y3 y4 y5 y6 y7 y8, LeO (partitalaw10_TurnsJumps.j1 k y0 y1 y2 y3 y4 y5 y6 y7 y8) (partitalaw10_TurnsJumps.j1 (k + 1) y0 y1 y2 y3 y4 y5 y6 y7 y8)) ∧ (∀ y0 y1 y2 y3 y4 y5 y6 y7 y8 y9 y10, LeO (partitalaw10_TurnsJumps.j2 k y0 y1 y2 y3 y4 y5 y6 y7 y8 y9 y10) (partitalaw10_TurnsJumps.j2 (k + 1) y0 y1 y2 y3 y4 y5 y6 y7 y8 y9 y10)) ∧ (∀ y0 y1 y2 y3 y4 y5 y6 y7 y8 y9, LeO (partitalaw10_TurnsJumps.j3 k y0 y1 y2 y3 y4 y5 y6 y7 y8 y9) (partitalaw10_TurnsJumps.j3 (k + 1) y0 y1 y2 y3 y4 y5 y6 y7 y8 y9)) ∧ (∀ y0 y1 y2 y3 y4 y5 y6 y7 y8 y9 y10, LeO (partitalaw10_TurnsJumps.j4 k y0 y1 y2 y3 y4 y5 y6 y7 y8 y9 y10) (partitalaw10_TurnsJumps.j4 (k + 1) y0 y1 y2 y3 y4 y5 y6 y7 y8 y9 y10)) ∧ (∀ y0 y1 y2 y3 y4 y5 y6 y7 y8, LeO (partitalaw10_TurnsJumps.j5 k y0 y1 y2 y3 y4 y5 y6 y7 y8) (partitalaw10_TurnsJumps.j5 (k + 1) y0 y1 y2 y3 y4 y5 y6 y7 y8))
  | 0 => ⟨fun _ _ _ _ _ _ _ r h => by simp [partitalaw10_TurnsJumps.l0] at h, fun _ _ _ _ _ _ _ _ _ r h => by simp [partitalaw10_TurnsJumps.j1] at h, fun _ _ _ _ _ _ _ _ _ _ _ r h => by simp [partitalaw10_TurnsJumps.j2] at h, fun _ _ _ _ _ _ _ _ _ _ r h => by simp [partitalaw10_TurnsJumps.j3] at h, fun _ _ _ _ _ _ _ _ _ _ _ r h => by simp [partitalaw10_TurnsJumps.j4] at h, fun _ _ _ _ _ _ _ _ _ r h => by simp [partitalaw10_TurnsJumps.j5] at h⟩
  | k + 1 => by
    obtain ⟨ih0, ih1, ih2, ih3, ih4, ih5⟩ := partitalaw10_TurnsJumps.mono_l k
    refine ⟨?_, ?_, ?_, ?_, ?_, ?_⟩
    · intro y0 y1 y2 y3 y4 y5 y6
      unfold partitalaw10_TurnsJumps.l0
      repeat' first
      | (with_reducible exact ih0 _ _ _ _ _ _ _)
      | (with_reducible exact ih1 _ _ _ _ _ _ _ _ _)
      | (with_reducible exact ih2 _ _ _ _ _ _ _ _ _ _ _)
      | (with_reducible exact ih3 _ _ _ _ _ _ _ _ _ _)
      | (with_reducible exact ih4 _ _ _ _ _ _ _ _ _ _ _)
      | (with_reducible exact ih5 _ _ _ _ _ _ _ _ _)
      | (with_reducible exact partitalaw10_examples.mono _)
      | (with_reducible exact partitalaw10_ints.mono _ _ _)
      | (with_reducible exact partitalaw10_rising.mono _ _ _)
      | (with_reducible exact turns_Unfold.mono _ _)
      | (with_reducible exact LeO.refl _)
      | (with_reducible exact LeO.none _)
      | (with_reducible refine LeO.ite ?_ ?_)
      | (with_reducible refine LeO.bind ?_ (fun _ => ?_))
      | exact ih0 _ _ _ _ _ _ _
      | exact ih1 _ _ _ _ _ _ _ _ _
      | exact ih2 _ _ _ _ _ _ _ _ _ _ _
      | exact ih3 _ _ _ _ _ _ _ _ _ _
      | exact ih4 _ _ _ _ _ _ _ _ _ _ _
      | exact ih5 _ _ _ _ _ _ _ _ _
      | exact partitalaw10_examples.mono _
      | exact partitalaw10_ints.mono _ _ _
      | exact partitalaw10_rising.mono _ _ _
      | exact turns_Unfold.mono _ _
      | exact LeO.none _
      | refine LeO.ite ?_ ?_
      | refine LeO.bind ?_ (fun _ => ?_)
    · intro y0 y1 y2 y3 y4 y5 y6 y7 y8
      unfold partitalaw10_TurnsJumps.j1
      repeat' first
      | (with_reducible exact ih0 _ _ _ _ _ _ _)
      | (with_reducible exact ih1 _ _ _ _ _ _ _ _ _)
      | (with_reducible exact ih2 _ _ _ _ _ _ _ _ _ _ _)
      | (with_reducible exact ih3 _ _ _ _ _ _ _ _ _ _)
      | (with_reducible exact ih4 _ _ _ _ _ _ _ _ _ _ _)
      | (with_reducible exact ih5 _ _ _ _ _ _ _ _ _)
      | (with_reducible exact partitalaw10_examples.mono _)
      | (with_reducible exact partitalaw10_ints.mono _ _ _)
      | (with_reducible exact partitalaw10_rising.mono _ _ _)
      | (with_reducible exact turns_Unfold.mono _ _)
      | (with_reducible exact LeO.refl _)
      | (with_reducible exact LeO.none _)
      | (with_reducible refine LeO.ite ?_ ?_)
      | (with_reducible refine LeO.bind ?_ (fun _ => ?_))
      | exact ih0 _ _ _ _ _ _ _
      | exact ih1 _ _ _ _ _ _ _ _ _
      | exact ih2 _ _ _ _ _ _ _ _ _ _ _
      | exact ih3 _ _ _ _ _ _ _ _ _ _
      | exact ih4 _ _ _ _ _ _ _ _ _ _ _
      | exact ih5 _ _ _ _ _ _ _ _ _
      | exact partitalaw10_examples.mono _
      | exact partitalaw10_ints.mono _ _ _
      | exact partitalaw10_rising.mono _ _ _
      | exact turns_Unfold.mono _ _
      | exact LeO.none _
      | refine LeO.ite ?_ ?_
      | refine LeO.bind ?_ (fun _ => ?_)
    · intro y0 y1 y2 y3 y4 y5 y6 y7 y8 y9 y10
      unfold partitalaw10_TurnsJumps.j2
      repeat' first
      | (with_reducible exact ih0 _ _ _ _ _ _ _)
      | (with_reducible exact ih1 _ _ _ _ _ _ _ _ _)
      | (with_reducible exact ih2 _ _ _ _ _ _ _ _ _ _ _)
      | (with_reducible exact ih3 _ _ _ _ _ _ _ _ _ _)
      | (with_reducible exact ih4 _ _ _ _ _ _ _ _ _ _ _)
      | (with_reducible exact ih5 _ _ _ _ _ _ _ _ _)
      | (with_reducible exact partitalaw10_examples.mono _)
      | (with_reducible exact partitalaw10_ints.mono _ _ _)
      | (with_reducible exact partitalaw10_rising.mono _ _ _)
      | (with_reducible exact turns_Unfold.mono _ _)
      | (with_reducible exact LeO.refl _)
      | (with_reducible exact LeO.none _)
      | (with_reducible refine LeO.ite ?_ ?_)
      | (with_reducible refine LeO.bind ?_ (fun _ => ?_))
      | exact ih0 _ _ _ _ _ _ _
      | exact ih1 _ _ _ _ _ _ _ _ _
      | exact ih2 _ _ _ _ _ _ _ _ _ _ _
      | exact ih3 _ _ _ _ _ _ _ _ _ _
      | exact ih4 _ _ _ _ _ _ _ _ _ _ _
      | exact ih5 _ _ _ _ _ _ _ _ _
      | exact partitalaw10_examples.mono _
      | exact partitalaw10_ints.mono _ _ _
      | exact partitalaw10_rising.mono _ _ _
      | exact turns_Unfold.mono _ _
      | exact LeO.none _
      | refine LeO.ite ?_ ?_
      | refine LeO.bind ?_ (fun _ => ?_)
    · intro y0 y1 y2 y3 y4 y5 y6 y7 y8 y9
      unfold partitalaw10_TurnsJumps.j3
      repeat' first
      | (with_reducible exact ih0 _ _ _ _ _ _ _)
      | (with_reducible exact ih1 _ _ _ _ _ _ _ _ _)
      | (with_reducible exact ih2 _ _ _ _ _ _ _ _ _ _ _)
      | (with_reducible exact ih3 _ _ _ _ _ _ _ _ _ _)
      | (with_reducible exact ih4 _ _ _ _ _ _ _ _ _ _ _)
      | (with_reducible exact ih5 _ _ _ _ _ _ _ _ _)
      | (with_reducible exact partitalaw10_examples.mono _)
      | (with_reducible exact partitalaw10_ints.mono _ _ _)
      | (with_reducible exact partitalaw10_rising.mono _ _ _)
      | (with_reducible exact turns_Unfold.mono _ _)
      | (with_reducible exact LeO.refl _)
      | (with_reducible exact LeO.none _)
      | (with_reducible refine LeO.ite ?_ ?_)
      | (with_reducible refine LeO.bind ?_ (fun _ => ?_))
      | exact ih0 _ _ _ _ _ _ _
      | exact ih1 _ _ _ _ _ _ _ _ _
      | exact ih2 _ _ _ _ _ _ _ _ _ _ _
      | exact ih3 _ _ _ _ _ _ _ _ _ _
      | exact ih4 _ _ _ _ _ _ _ _ _ _ _
      | exact ih5 _ _ _ _ _ _ _ _ _
      | exact partitalaw10_examples.mono _
      | exact partitalaw10_ints.mono _ _ _
      | exact partitalaw10_rising.mono _ _ _
      | exact turns_Unfold.mono _ _
      | exact LeO.none _
      | refine LeO.ite ?_ ?_
      | refine LeO.bind ?_ (fun _ => ?_)
    · intro y0 y1 y2 y3 y4 y5 y6 y7 y8 y9 y10
      unfold partitalaw10_TurnsJumps.j4
      repeat' first
      | (with_reducible exact ih0 _ _ _ _ _ _ _)
      | (with_reducible exact ih1 _ _ _ _ _ _ _ _ _)
      | (with_reducible exact ih2 _ _ _ _ _ _ _ _ _ _ _)
      | (with_reducible exact ih3 _ _ _ _ _ _ _ _ _ _)
      | (with_reducible exact ih4 _ _ _ _ _ _ _ _ _ _ _)
      | (with_reducible exact ih5 _ _ _ _ _ _ _ _ _)
      | (with_reducible exact partitalaw10_examples.mono _)
      | (with_reducible exact partitalaw10_ints.mono _ _ _)
      | (with_reducible exact partitalaw10_rising.mono _ _ _)
      | (with_reducible exact turns_Unfold.mono _ _)
      | (with_reducible exact LeO.refl _)
      | (with_reducible exact LeO.none _)
      | (with_reducible refine LeO.ite ?_ ?_)
      | (with_reducible refine LeO.bind ?_ (fun _ => ?_))
      | exact ih0 _ _ _ _ _ _ _
      | exact ih1 _ _ _ _ _ _ _ _ _
      | exact ih2 _ _ _ _ _ _ _ _ _ _ _
      | exact ih3 _ _ _ _ _ _ _ _ _ _
      | exact ih4 _ _ _ _ _ _ _ _ _ _ _
      | exact ih5 _ _ _ _ _ _ _ _ _
      | exact partitalaw10_examples.mono _
      | exact partitalaw10_ints.mono _ _ _
      | exact partitalaw10_rising.mono _ _ _
      | exact turns_Unfold.mono _ _
      | exact LeO.none _
      | refine LeO.ite ?_ ?_
      | refine LeO.bind ?_ (fun _ => ?_)
    · intro y0 y1 y2 y3 y4 y5 y6 y7 y8
      unfold partitalaw10_TurnsJumps.j5
      repeat' first
      | (with_reducible exact ih0 _ _ _ _ _ _ _)
      | (with_reducible exact ih1 _ _ _ _ _ _ _ _ _)
      | (with_reducible exact ih2 _ _ _ _ _ _ _ _ _ _ _)
      | (with_reducible exact ih3 _ _ _ _ _ _ _ _ _ _)
      | (with_reducible exact ih4 _ _ _ _ _ _ _ _ _ _ _)
      | (with_reducible exact ih5 _ _ _ _ _ _ _ _ _)
      | (with_reducible exact partitalaw10_examples.mono _)
      | (with_reducible exact partitalaw10_ints.mono _ _ _)
      | (with_reducible exact partitalaw10_rising.mono _ _ _)
      | (with_reducible exact turns_Unfold.mono _ _)
      | (with_reducible exact LeO.refl _)
      | (with_reducible exact LeO.none _)
      | (with_reducible refine LeO.ite ?_ ?_)
      | (with_reducible refine LeO.bind ?_ (fun _ => ?_))
      | exact ih0 _ _ _ _ _ _ _
      | exact ih1 _ _ _ _ _ _ _ _ _
      | exact ih2 _ _ _ _ _ _ _ _ _ _ _
      | exact ih3 _ _ _ _ _ _ _ _ _ _
      | exact ih4 _ _ _ _ _ _ _ _ _ _ _
      | exact ih5 _ _ _ _ _ _ _ _ _
      | exact partitalaw10_examples.mono _
      | exact partitalaw10_ints.mono _ _ _
      | exact partitalaw10_rising.mono _ _ _
      | exact turns_Unfold.mono _ _
      | exact LeO.none _
      | refine LeO.ite ?_ ?_
      | refine LeO.bind ?_ (fun _ => ?_)
theorem partitalaw10_TurnsJumps.mono : ∀ a0 a1 a2 a3 a4 k, LeO (partitalaw10_TurnsJumps.f k a0 a1 a2 a3 a4) (partitalaw10_TurnsJumps.f (k + 1) a0 a1 a2 a3 a4) := by
  intro a0 a1 a2 a3 a4 k
  obtain ⟨ih0, ih1, ih2, ih3, ih4, ih5⟩ := partitalaw10_TurnsJumps.mono_l k
  unfold partitalaw10_TurnsJumps.f
  repeat' first
      | (with_reducible exact ih0 _ _ _ _ _ _ _)
      | (with_reducible exact ih1 _ _ _ _ _ _ _ _ _)
      | (with_reducible exact ih2 _ _ _ _ _ _ _ _ _ _ _)
      | (with_reducible exact ih3 _ _ _ _ _ _ _ _ _ _)
      | (with_reducible exact ih4 _ _ _ _ _ _ _ _ _ _ _)
      | (with_reducible exact ih5 _ _ _ _ _ _ _ _ _)
      | (with_reducible exact partitalaw10_examples.mono _)
      | (with_reducible exact partitalaw10_ints.mono _ _ _)
      | (with_reducible exact partitalaw10_rising.mono _ _ _)
      | (with_reducible exact turns_Unfold.mono _ _)
      | (with_reducible exact LeO.refl _)
      | (with_reducible exact LeO.none _)
      | (with_reducible refine LeO.ite ?_ ?_)
      | (with_reducible refine LeO.bind ?_ (fun _ => ?_))
      | exact ih0 _ _ _ _ _ _ _
      | exact ih1 _ _ _ _ _ _ _ _ _
      | exact ih2 _ _ _ _ _ _ _ _ _ _ _
      | exact ih3 _ _ _ _ _ _ _ _ _ _
      | exact ih4 _ _ _ _ _ _ _ _ _ _ _
      | exact ih5 _ _ _ _ _ _ _ _ _
      | exact partitalaw10_examples.mono _
      | exact partitalaw10_ints.mono _ _ _
      | exact partitalaw10_rising.mono _ _ _
      | exact turns_Unfold.mono _ _
      | exact LeO.none _
      | refine LeO.ite ?_ ?_
      | refine LeO.bind ?_ (fun _ => ?_)
set_option maxHeartbeats 8000000 in
set_option maxRecDepth 100000 in
theorem partitalaw10_TurnsJumps.calls (k : Nat) (a0 : Int) (a1 : Int) (a2 : Int) (a3 : Int) (a4 : Int) (r : Bool) (w : World) (h : partitalaw10_TurnsJumps.f k a0 a1 a2 a3 a4 = some r) :
    Calls Try.prog 7 #[.int .u8 a0, .int .u8 a1, .int .u8 a2, .int .u8 a3, .int .u8 a4] w fun e w' => e = .returned (.bool r) ∧ Below w.heap.size w w' := by
  have HB := Aside0.mk (Below.refl w.heap.size w)
  have H : ((partitalaw10_examples.f k).bind fun t362 => (if t362 = true then (if (wrap64 (1 + (wrap64 (Int.tmod a0 60)))) = 0 then (none) else (if (wrap64 ((Int.tmod (wrap64 (a1)) (wrap64 (1 + (wrap64 (Int.tmod a0 60))))) + 1)) = 0 then (none) else (if (wrap64 ((wrap64 (1 + (wrap64 (Int.tmod a0 60)))) - (Int.tmod (wrap64 (a2)) (wrap64 ((Int.tmod (wrap64 (a1)) (wrap64 (1 + (wrap64 (Int.tmod a0 60))))) + 1))))) = 0 then (none) else (partitalaw10_TurnsJumps.l0 k t362 (wrap64 (1 + (wrap64 (Int.tmod a0 60)))) (Int.tmod (wrap64 (a1)) (wrap64 (1 + (wrap64 (Int.tmod a0 60))))) (Int.tmod (wrap64 (a2)) (wrap64 ((Int.tmod (wrap64 (a1)) (wrap64 (1 + (wrap64 (Int.tmod a0 60))))) + 1))) (wrap64 ((Int.tmod (wrap64 (a2)) (wrap64 ((Int.tmod (wrap64 (a1)) (wrap64 (1 + (wrap64 (Int.tmod a0 60))))) + 1))) + (Int.tmod (wrap64 (a3)) (wrap64 ((wrap64 (1 + (wrap64 (Int.tmod a0 60)))) - (Int.tmod (wrap64 (a2)) (wrap64 ((Int.tmod (wrap64 (a1)) (wrap64 (1 + (wrap64 (Int.tmod a0 60))))) + 1)))))))) (Int.tmod (wrap64 (a4)) (wrap64 (1 + (wrap64 (Int.tmod a0 60))))) 1)))) else (some false))) = some r := h
  clear h
  replace H := Option.bind_eq_some_iff.mp H
  obtain ⟨t362, A60, H⟩ := H
  replace H : (if t362 = true then (if (wrap64 (1 + (wrap64 (Int.tmod a0 60)))) = 0 then (none) else (if (wrap64 ((Int.tmod (wrap64 (a1)) (wrap64 (1 + (wrap64 (Int.tmod a0 60))))) + 1)) = 0 then (none) else (if (wrap64 ((wrap64 (1 + (wrap64 (Int.tmod a0 60)))) - (Int.tmod (wrap64 (a2)) (wrap64 ((Int.tmod (wrap64 (a1)) (wrap64 (1 + (wrap64 (Int.tmod a0 60))))) + 1))))) = 0 then (none) else (partitalaw10_TurnsJumps.l0 k t362 (wrap64 (1 + (wrap64 (Int.tmod a0 60)))) (Int.tmod (wrap64 (a1)) (wrap64 (1 + (wrap64 (Int.tmod a0 60))))) (Int.tmod (wrap64 (a2)) (wrap64 ((Int.tmod (wrap64 (a1)) (wrap64 (1 + (wrap64 (Int.tmod a0 60))))) + 1))) (wrap64 ((Int.tmod (wrap64 (a2)) (wrap64 ((Int.tmod (wrap64 (a1)) (wrap64 (1 + (wrap64 (Int.tmod a0 60))))) + 1))) + (Int.tmod (wrap64 (a3)) (wrap64 ((wrap64 (1 + (wrap64 (Int.tmod a0 60)))) - (Int.tmod (wrap64 (a2)) (wrap64 ((Int.tmod (wrap64 (a1)) (wrap64 (1 + (wrap64 (Int.tmod a0 60))))) + 1)))))))) (Int.tmod (wrap64 (a4)) (wrap64 (1 + (wrap64 (Int.tmod a0 60))))) 1)))) else (some false)) = some r := H
  have A6 := Aside0.mk A60
  clear A60
  by_cases c7 : t362 = true
  · subst c7
    have H1 : (if (wrap64 (1 + (wrap64 (Int.tmod a0 60)))) = 0 then (none) else (if (wrap64 ((Int.tmod (wrap64 (a1)) (wrap64 (1 + (wrap64 (Int.tmod a0 60))))) + 1)) = 0 then (none) else (if (wrap64 ((wrap64 (1 + (wrap64 (Int.tmod a0 60)))) - (Int.tmod (wrap64 (a2)) (wrap64 ((Int.tmod (wrap64 (a1)) (wrap64 (1 + (wrap64 (Int.tmod a0 60))))) + 1))))) = 0 then (none) else (partitalaw10_TurnsJumps.l0 k true (wrap64 (1 + (wrap64 (Int.tmod a0 60)))) (Int.tmod (wrap64 (a1)) (wrap64 (1 + (wrap64 (Int.tmod a0 60))))) (Int.tmod (wrap64 (a2)) (wrap64 ((Int.tmod (wrap64 (a1)) (wrap64 (1 + (wrap64 (Int.tmod a0 60))))) + 1))) (wrap64 ((Int.tmod (wrap64 (a2)) (wrap64 ((Int.tmod (wrap64 (a1)) (wrap64 (1 + (wrap64 (Int.tmod a0 60))))) + 1))) + (Int.tmod (wrap64 (a3)) (wrap64 ((wrap64 (1 + (wrap64 (Int.tmod a0 60)))) - (Int.tmod (wrap64 (a2)) (wrap64 ((Int.tmod (wrap64 (a1)) (wrap64 (1 + (wrap64 (Int.tmod a0 60))))) + 1)))))))) (Int.tmod (wrap64 (a4)) (wrap64 (1 + (wrap64 (Int.tmod a0 60))))) 1)))) = some r := by rw [if_pos rfl] at H; exact H
    clear H
    have H := H1
    clear H1
    by_cases c8 : (wrap64 (1 + (wrap64 (Int.tmod a0 60)))) = 0
    · rw [if_pos c8] at H
      exact absurd H (by simp)
    · rw [if_neg c8] at H
      have c8b0 : ((wrap64 (1 + (wrap64 (Int.tmod a0 60)))) == 0) = false := beq_eq_false_iff_ne.mpr c8
      have c8b1 : ((wrap64 (1 + (wrap64 (Int.tmod a0 60)))) != 0) = true := bne_iff_ne.mpr c8
      by_cases c9 : (wrap64 ((Int.tmod (wrap64 (a1)) (wrap64 (1 + (wrap64 (Int.tmod a0 60))))) + 1)) = 0
      · rw [if_pos c9] at H
        exact absurd H (by simp)
      · rw [if_neg c9] at H
        have c9b0 : ((wrap64 ((Int.tmod (wrap64 (a1)) (wrap64 (1 + (wrap64 (Int.tmod a0 60))))) + 1)) == 0) = false := beq_eq_false_iff_ne.mpr c9
        have c9b1 : ((wrap64 ((Int.tmod (wrap64 (a1)) (wrap64 (1 + (wrap64 (Int.tmod a0 60))))) + 1)) != 0) = true := bne_iff_ne.mpr c9
        by_cases c10 : (wrap64 ((wrap64 (1 + (wrap64 (Int.tmod a0 60)))) - (Int.tmod (wrap64 (a2)) (wrap64 ((Int.tmod (wrap64 (a1)) (wrap64 (1 + (wrap64 (Int.tmod a0 60))))) + 1))))) = 0
        · rw [if_pos c10] at H
          exact absurd H (by simp)
        · rw [if_neg c10] at H
          have c10b0 : ((wrap64 ((wrap64 (1 + (wrap64 (Int.tmod a0 60)))) - (Int.tmod (wrap64 (a2)) (wrap64 ((Int.tmod (wrap64 (a1)) (wrap64 (1 + (wrap64 (Int.tmod a0 60))))) + 1))))) == 0) = false := beq_eq_false_iff_ne.mpr c10
          have c10b1 : ((wrap64 ((wrap64 (1 + (wrap64 (Int.tmod a0 60)))) - (Int.tmod (wrap64 (a2)) (wrap64 ((Int.tmod (wrap64 (a1)) (wrap64 (1 + (wrap64 (Int.tmod a0 60))))) + 1))))) != 0) = true := bne_iff_ne.mpr c10
          have H' := Aside0.mk H
          clear H
          go_enter Try.func7, Try.ntmps7
          go_wp2_with (first | ((with_reducible refine gate_callee (f := 11) rfl ?_); refine goesL_ (some 23) rfl rfl Try.func11 (by kernel_rfl) rfl #[] rfl (by (try simp only [List.map_toArray, List.map_cons, List.map_nil]); first | done | rfl | (simp only [List.length_drop, List.length_take]; rfl)) ?_; (with_reducible refine (partitalaw10_examples.calls k  true _ A6.out).mono ?_); rintro e w11 ⟨rfl, hb⟩; refine ⟨_, rfl, ?_⟩; have n0_ := Aside0.mk (below_step (by repeat (first | (with_reducible first | exact HB.out | apply below_alloc | apply pw_below_drewN | apply below_drew1) | exact HB.out)) hb); clear HB; have HB := n0_; clear n0_; (try clear hb); (try clear hb2); (try clear hk); (try clear hi)))
          go_loopg [17] k (fun kq v17 w' => ∃ (x17_1 : Int), v17 = .int .i64 x17_1 ∧ Aside0 (partitalaw10_TurnsJumps.l0 kq true (wrap64 (1 + (wrap64 (Int.tmod a0 60)))) (Int.tmod (wrap64 (a1)) (wrap64 (1 + (wrap64 (Int.tmod a0 60))))) (Int.tmod (wrap64 (a2)) (wrap64 ((Int.tmod (wrap64 (a1)) (wrap64 (1 + (wrap64 (Int.tmod a0 60))))) + 1))) (wrap64 ((Int.tmod (wrap64 (a2)) (wrap64 ((Int.tmod (wrap64 (a1)) (wrap64 (1 + (wrap64 (Int.tmod a0 60))))) + 1))) + (Int.tmod (wrap64 (a3)) (wrap64 ((wrap64 (1 + (wrap64 (Int.tmod a0 60)))) - (Int.tmod (wrap64 (a2)) (wrap64 ((Int.tmod (wrap64 (a1)) (wrap64 (1 + (wrap64 (Int.tmod a0 60))))) + 1)))))))) (Int.tmod (wrap64 (a4)) (wrap64 (1 + (wrap64 (Int.tmod a0 60))))) x17_1 = some r) ∧ Aside0 (kq ≤ k) ∧ Aside0 (Below w.heap.size w w'))
          case atStart => exact ⟨(1), (by first | rfl | (simp; done) | (simp [*]; done)), H', ⟨Nat.le_refl _⟩, ⟨by repeat (first | (with_reducible first | exact HB.out | apply below_alloc | apply pw_below_drewN | apply below_drew1) | exact HB.out)⟩⟩
          case round =>
            clear H'
            try clear c1
            try clear p2
            try clear p6
            try clear c7
            try clear c8
            try clear c8b0
            try clear c8b1
            try clear c9
            try clear c9b0
            try clear c9b1
            try clear c10
            try clear c10b0
            try clear c10b1
            try clear c11
            obtain ⟨x17_1, rfl, HA, HK1, HB⟩ := hrel
            cases gk with
            | zero => exact absurd HA.out (by simp [partitalaw10_TurnsJumps.l0])
            | succ k1 =>
              have H := HA.out
              clear HA
              simp only [partitalaw10_TurnsJumps.l0] at H
              by_cases c12 : x17_1 ≤ 6
              · rw [if_pos c12] at H
                have c12b0 : decide (x17_1 ≤ 6) = true := decide_eq_true c12
                clear c12
                replace H := Option.bind_eq_some_iff.mp H
                obtain ⟨t363, A130, H⟩ := H
                replace H : (if 0 ≤ (Int.tmod (wrap64 (a1)) (wrap64 (1 + (wrap64 (Int.tmod a0 60))))) then (if (Int.tmod (wrap64 (a1)) (wrap64 (1 + (wrap64 (Int.tmod a0 60))))) < (t363.length : Int) then ((some (t363.set ((Int.tmod (wrap64 (a1)) (wrap64 (1 + (wrap64 (Int.tmod a0 60))))) : Int).toNat (⟨(rd_T38 t363 (Int.tmod (wrap64 (a1)) (wrap64 (1 + (wrap64 (Int.tmod a0 60)))))).f0, (rd_T38 t363 (Int.tmod (wrap64 (a1)) (wrap64 (1 + (wrap64 (Int.tmod a0 60)))))).f1, (rd_T38 t363 (Int.tmod (wrap64 (a1)) (wrap64 (1 + (wrap64 (Int.tmod a0 60)))))).f2, (rd_T38 t363 (Int.tmod (wrap64 (a1)) (wrap64 (1 + (wrap64 (Int.tmod a0 60)))))).f3, (rd_T38 t363 (Int.tmod (wrap64 (a1)) (wrap64 (1 + (wrap64 (Int.tmod a0 60)))))).f4, (rd_T38 t363 (Int.tmod (wrap64 (a1)) (wrap64 (1 + (wrap64 (Int.tmod a0 60)))))).f5, (rd_T38 t363 (Int.tmod (wrap64 (a1)) (wrap64 (1 + (wrap64 (Int.tmod a0 60)))))).f6, x17_1⟩ : S38) : List (S38))).bind fun y366 => (if 0 ≤ (Int.tmod (wrap64 (a2)) (wrap64 ((Int.tmod (wrap64 (a1)) (wrap64 (1 + (wrap64 (Int.tmod a0 60))))) + 1))) then (if (Int.tmod (wrap64 (a2)) (wrap64 ((Int.tmod (wrap64 (a1)) (wrap64 (1 + (wrap64 (Int.tmod a0 60))))) + 1))) < (t363.length : Int) then ((some (y366.set ((Int.tmod (wrap64 (a2)) (wrap64 ((Int.tmod (wrap64 (a1)) (wrap64 (1 + (wrap64 (Int.tmod a0 60))))) + 1))) : Int).toNat (⟨(rd_T38 y366 (Int.tmod (wrap64 (a2)) (wrap64 ((Int.tmod (wrap64 (a1)) (wrap64 (1 + (wrap64 (Int.tmod a0 60))))) + 1)))).f0, (rd_T38 y366 (Int.tmod (wrap64 (a2)) (wrap64 ((Int.tmod (wrap64 (a1)) (wrap64 (1 + (wrap64 (Int.tmod a0 60))))) + 1)))).f1, (rd_T38 y366 (Int.tmod (wrap64 (a2)) (wrap64 ((Int.tmod (wrap64 (a1)) (wrap64 (1 + (wrap64 (Int.tmod a0 60))))) + 1)))).f2, true, (rd_T38 y366 (Int.tmod (wrap64 (a2)) (wrap64 ((Int.tmod (wrap64 (a1)) (wrap64 (1 + (wrap64 (Int.tmod a0 60))))) + 1)))).f4, (rd_T38 y366 (Int.tmod (wrap64 (a2)) (wrap64 ((Int.tmod (wrap64 (a1)) (wrap64 (1 + (wrap64 (Int.tmod a0 60))))) + 1)))).f5, (rd_T38 y366 (Int.tmod (wrap64 (a2)) (wrap64 ((Int.tmod (wrap64 (a1)) (wrap64 (1 + (wrap64 (Int.tmod a0 60))))) + 1)))).f6, (rd_T38 y366 (Int.tmod (wrap64 (a2)) (wrap64 ((Int.tmod (wrap64 (a1)) (wrap64 (1 + (wrap64 (Int.tmod a0 60))))) + 1)))).f7⟩ : S38) : List (S38))).bind fun y367 => (if 0 ≤ (wrap64 ((Int.tmod (wrap64 (a2)) (wrap64 ((Int.tmod (wrap64 (a1)) (wrap64 (1 + (wrap64 (Int.tmod a0 60))))) + 1))) + (Int.tmod (wrap64 (a3)) (wrap64 ((wrap64 (1 + (wrap64 (Int.tmod a0 60)))) - (Int.tmod (wrap64 (a2)) (wrap64 ((Int.tmod (wrap64 (a1)) (wrap64 (1 + (wrap64 (Int.tmod a0 60))))) + 1)))))))) then (if (wrap64 ((Int.tmod (wrap64 (a2)) (wrap64 ((Int.tmod (wrap64 (a1)) (wrap64 (1 + (wrap64 (Int.tmod a0 60))))) + 1))) + (Int.tmod (wrap64 (a3)) (wrap64 ((wrap64 (1 + (wrap64 (Int.tmod a0 60)))) - (Int.tmod (wrap64 (a2)) (wrap64 ((Int.tmod (wrap64 (a1)) (wrap64 (1 + (wrap64 (Int.tmod a0 60))))) + 1)))))))) < (t363.length : Int) then ((some (y367.set ((wrap64 ((Int.tmod (wrap64 (a2)) (wrap64 ((Int.tmod (wrap64 (a1)) (wrap64 (1 + (wrap64 (Int.tmod a0 60))))) + 1))) + (Int.tmod (wrap64 (a3)) (wrap64 ((wrap64 (1 + (wrap64 (Int.tmod a0 60)))) - (Int.tmod (wrap64 (a2)) (wrap64 ((Int.tmod (wrap64 (a1)) (wrap64 (1 + (wrap64 (Int.tmod a0 60))))) + 1)))))))) : Int).toNat (⟨(rd_T38 y367 (wrap64 ((Int.tmod (wrap64 (a2)) (wrap64 ((Int.tmod (wrap64 (a1)) (wrap64 (1 + (wrap64 (Int.tmod a0 60))))) + 1))) + (Int.tmod (wrap64 (a3)) (wrap64 ((wrap64 (1 + (wrap64 (Int.tmod a0 60)))) - (Int.tmod (wrap64 (a2)) (wrap64 ((Int.tmod (wrap64 (a1)) (wrap64 (1 + (wrap64 (Int.tmod a0 60))))) + 1))))))))).f0, (rd_T38 y367 (wrap64 ((Int.tmod (wrap64 (a2)) (wrap64 ((Int.tmod (wrap64 (a1)) (wrap64 (1 + (wrap64 (Int.tmod a0 60))))) + 1))) + (Int.tmod (wrap64 (a3)) (wrap64 ((wrap64 (1 + (wrap64 (Int.tmod a0 60)))) - (Int.tmod (wrap64 (a2)) (wrap64 ((Int.tmod (wrap64 (a1)) (wrap64 (1 + (wrap64 (Int.tmod a0 60))))) + 1))))))))).f1, (rd_T38 y367 (wrap64 ((Int.tmod (wrap64 (a2)) (wrap64 ((Int.tmod (wrap64 (a1)) (wrap64 (1 + (wrap64 (Int.tmod a0 60))))) + 1))) + (Int.tmod (wrap64 (a3)) (wrap64 ((wrap64 (1 + (wrap64 (Int.tmod a0 60)))) - (Int.tmod (wrap64 (a2)) (wrap64 ((Int.tmod (wrap64 (a1)) (wrap64 (1 + (wrap64 (Int.tmod a0 60))))) + 1))))))))).f2, (rd_T38 y367 (wrap64 ((Int.tmod (wrap64 (a2)) (wrap64 ((Int.tmod (wrap64 (a1)) (wrap64 (1 + (wrap64 (Int.tmod a0 60))))) + 1))) + (Int.tmod (wrap64 (a3)) (wrap64 ((wrap64 (1 + (wrap64 (Int.tmod a0 60)))) - (Int.tmod (wrap64 (a2)) (wrap64 ((Int.tmod (wrap64 (a1)) (wrap64 (1 + (wrap64 (Int.tmod a0 60))))) + 1))))))))).f3, (rd_T38 y367 (wrap64 ((Int.tmod (wrap64 (a2)) (wrap64 ((Int.tmod (wrap64 (a1)) (wrap64 (1 + (wrap64 (Int.tmod a0 60))))) + 1))) + (Int.tmod (wrap64 (a3)) (wrap64 ((wrap64 (1 + (wrap64 (Int.tmod a0 60)))) - (Int.tmod (wrap64 (a2)) (wrap64 ((Int.tmod (wrap64 (a1)) (wrap64 (1 + (wrap64 (Int.tmod a0 60))))) + 1))))))))).f4, (rd_T38 y367 (wrap64 ((Int.tmod (wrap64 (a2)) (wrap64 ((Int.tmod (wrap64 (a1)) (wrap64 (1 + (wrap64 (Int.tmod a0 60))))) + 1))) + (Int.tmod (wrap64 (a3)) (wrap64 ((wrap64 (1 + (wrap64 (Int.tmod a0 60)))) - (Int.tmod (wrap64 (a2)) (wrap64 ((Int.tmod (wrap64 (a1)) (wrap64 (1 + (wrap64 (Int.tmod a0 60))))) + 1))))))))).f5, true, (rd_T38 y367 (wrap64 ((Int.tmod (wrap64 (a2)) (wrap64 ((Int.tmod (wrap64 (a1)) (wrap64 (1 + (wrap64 (Int.tmod a0 60))))) + 1))) + (Int.tmod (wrap64 (a3)) (wrap64 ((wrap64 (1 + (wrap64 (Int.tmod a0 60)))) - (Int.tmod (wrap64 (a2)) (wrap64 ((Int.tmod (wrap64 (a1)) (wrap64 (1 + (wrap64 (Int.tmod a0 60))))) + 1))))))))).f7⟩ : S38) : List (S38))).bind fun y368 => ((some (y368.set ((wrap64 ((Int.tmod (wrap64 (a2)) (wrap64 ((Int.tmod (wrap64 (a1)) (wrap64 (1 + (wrap64 (Int.tmod a0 60))))) + 1))) + (Int.tmod (wrap64 (a3)) (wrap64 ((wrap64 (1 + (wrap64 (Int.tmod a0 60)))) - (Int.tmod (wrap64 (a2)) (wrap64 ((Int.tmod (wrap64 (a1)) (wrap64 (1 + (wrap64 (Int.tmod a0 60))))) + 1)))))))) : Int).toNat (⟨(rd_T38 y368 (wrap64 ((Int.tmod (wrap64 (a2)) (wrap64 ((Int.tmod (wrap64 (a1)) (wrap64 (1 + (wrap64 (Int.tmod a0 60))))) + 1))) + (Int.tmod (wrap64 (a3)) (wrap64 ((wrap64 (1 + (wrap64 (Int.tmod a0 60)))) - (Int.tmod (wrap64 (a2)) (wrap64 ((Int.tmod (wrap64 (a1)) (wrap64 (1 + (wrap64 (Int.tmod a0 60))))) + 1))))))))).f0, (rd_T38 y368 (wrap64 ((Int.tmod (wrap64 (a2)) (wrap64 ((Int.tmod (wrap64 (a1)) (wrap64 (1 + (wrap64 (Int.tmod a0 60))))) + 1))) + (Int.tmod (wrap64 (a3)) (wrap64 ((wrap64 (1 + (wrap64 (Int.tmod a0 60)))) - (Int.tmod (wrap64 (a2)) (wrap64 ((Int.tmod (wrap64 (a1)) (wrap64 (1 + (wrap64 (Int.tmod a0 60))))) + 1))))))))).f1, (rd_T38 y368 (wrap64 ((Int.tmod (wrap64 (a2)) (wrap64 ((Int.tmod (wrap64 (a1)) (wrap64 (1 + (wrap64 (Int.tmod a0 60))))) + 1))) + (Int.tmod (wrap64 (a3)) (wrap64 ((wrap64 (1 + (wrap64 (Int.tmod a0 60)))) - (Int.tmod (wrap64 (a2)) (wrap64 ((Int.tmod (wrap64 (a1)) (wrap64 (1 + (wrap64 (Int.tmod a0 60))))) + 1))))))))).f2, (rd_T38 y368 (wrap64 ((Int.tmod (wrap64 (a2)) (wrap64 ((Int.tmod (wrap64 (a1)) (wrap64 (1 + (wrap64 (Int.tmod a0 60))))) + 1))) + (Int.tmod (wrap64 (a3)) (wrap64 ((wrap64 (1 + (wrap64 (Int.tmod a0 60)))) - (Int.tmod (wrap64 (a2)) (wrap64 ((Int.tmod (wrap64 (a1)) (wrap64 (1 + (wrap64 (Int.tmod a0 60))))) + 1))))))))).f3, (rd_T38 y368 (wrap64 ((Int.tmod (wrap64 (a2)) (wrap64 ((Int.tmod (wrap64 (a1)) (wrap64 (1 + (wrap64 (Int.tmod a0 60))))) + 1))) + (Int.tmod (wrap64 (a3)) (wrap64 ((wrap64 (1 + (wrap64 (Int.tmod a0 60)))) - (Int.tmod (wrap64 (a2)) (wrap64 ((Int.tmod (wrap64 (a1)) (wrap64 (1 + (wrap64 (Int.tmod a0 60))))) + 1))))))))).f4, true, (rd_T38 y368 (wrap64 ((Int.tmod (wrap64 (a2)) (wrap64 ((Int.tmod (wrap64 (a1)) (wrap64 (1 + (wrap64 (Int.tmod a0 60))))) + 1))) + (Int.tmod (wrap64 (a3)) (wrap64 ((wrap64 (1 + (wrap64 (Int.tmod a0 60)))) - (Int.tmod (wrap64 (a2)) (wrap64 ((Int.tmod (wrap64 (a1)) (wrap64 (1 + (wrap64 (Int.tmod a0 60))))) + 1))))))))).f6, (rd_T38 y368 (wrap64 ((Int.tmod (wrap64 (a2)) (wrap64 ((Int.tmod (wrap64 (a1)) (wrap64 (1 + (wrap64 (Int.tmod a0 60))))) + 1))) + (Int.tmod (wrap64 (a3)) (wrap64 ((wrap64 (1 + (wrap64 (Int.tmod a0 60)))) - (Int.tmod (wrap64 (a2)) (wrap64 ((Int.tmod (wrap64 (a1)) (wrap64 (1 + (wrap64 (Int.tmod a0 60))))) + 1))))))))).f7⟩ : S38) : List (S38))).bind fun y369 => (if 0 ≤ (Int.tmod (wrap64 (a4)) (wrap64 (1 + (wrap64 (Int.tmod a0 60))))) then (if (Int.tmod (wrap64 (a4)) (wrap64 (1 + (wrap64 (Int.tmod a0 60))))) < (t363.length : Int) then ((some (y369.set ((Int.tmod (wrap64 (a4)) (wrap64 (1 + (wrap64 (Int.tmod a0 60))))) : Int).toNat (⟨(rd_T38 y369 (Int.tmod (wrap64 (a4)) (wrap64 (1 + (wrap64 (Int.tmod a0 60)))))).f0, (rd_T38 y369 (Int.tmod (wrap64 (a4)) (wrap64 (1 + (wrap64 (Int.tmod a0 60)))))).f1, (rd_T38 y369 (Int.tmod (wrap64 (a4)) (wrap64 (1 + (wrap64 (Int.tmod a0 60)))))).f2, (rd_T38 y369 (Int.tmod (wrap64 (a4)) (wrap64 (1 + (wrap64 (Int.tmod a0 60)))))).f3, true, (rd_T38 y369 (Int.tmod (wrap64 (a4)) (wrap64 (1 + (wrap64 (Int.tmod a0 60)))))).f5, (rd_T38 y369 (Int.tmod (wrap64 (a4)) (wrap64 (1 + (wrap64 (Int.tmod a0 60)))))).f6, (rd_T38 y369 (Int.tmod (wrap64 (a4)) (wrap64 (1 + (wrap64 (Int.tmod a0 60)))))).f7⟩ : S38) : List (S38))).bind fun y370 => (if x17_1 ≥ 4 then (partitalaw10_TurnsJumps.j1 k1 true (wrap64 (1 + (wrap64 (Int.tmod a0 60)))) (Int.tmod (wrap64 (a1)) (wrap64 (1 + (wrap64 (Int.tmod a0 60))))) (Int.tmod (wrap64 (a2)) (wrap64 ((Int.tmod (wrap64 (a1)) (wrap64 (1 + (wrap64 (Int.tmod a0 60))))) + 1))) (wrap64 ((Int.tmod (wrap64 (a2)) (wrap64 ((Int.tmod (wrap64 (a1)) (wrap64 (1 + (wrap64 (Int.tmod a0 60))))) + 1))) + (Int.tmod (wrap64 (a3)) (wrap64 ((wrap64 (1 + (wrap64 (Int.tmod a0 60)))) - (Int.tmod (wrap64 (a2)) (wrap64 ((Int.tmod (wrap64 (a1)) (wrap64 (1 + (wrap64 (Int.tmod a0 60))))) + 1)))))))) (Int.tmod (wrap64 (a4)) (wrap64 (1 + (wrap64 (Int.tmod a0 60))))) x17_1 y370 (Int.tmod (wrap64 (a2)) (wrap64 ((Int.tmod (wrap64 (a1)) (wrap64 (1 + (wrap64 (Int.tmod a0 60))))) + 1)))) else (partitalaw10_TurnsJumps.j1 k1 true (wrap64 (1 + (wrap64 (Int.tmod a0 60)))) (Int.tmod (wrap64 (a1)) (wrap64 (1 + (wrap64 (Int.tmod a0 60))))) (Int.tmod (wrap64 (a2)) (wrap64 ((Int.tmod (wrap64 (a1)) (wrap64 (1 + (wrap64 (Int.tmod a0 60))))) + 1))) (wrap64 ((Int.tmod (wrap64 (a2)) (wrap64 ((Int.tmod (wrap64 (a1)) (wrap64 (1 + (wrap64 (Int.tmod a0 60))))) + 1))) + (Int.tmod (wrap64 (a3)) (wrap64 ((wrap64 (1 + (wrap64 (Int.tmod a0 60)))) - (Int.tmod (wrap64 (a2)) (wrap64 ((Int.tmod (wrap64 (a1)) (wrap64 (1 + (wrap64 (Int.tmod a0 60))))) + 1)))))))) (Int.tmod (wrap64 (a4)) (wrap64 (1 + (wrap64 (Int.tmod a0 60))))) x17_1 y370 0))) else (none)) else (none)))) else (none)) else (none))) else (none)) else (none))) else (none)) else (none)) = some r := H
                have A13 := Aside0.mk A130
                clear A130
                obtain ⟨ji14, hji14⟩ : ∃ j_ : Int, (Int.tmod (wrap64 (a1)) (wrap64 (1 + (wrap64 (Int.tmod a0 60))))) = j_ := ⟨_, rfl⟩
                replace H : (if 0 ≤ (ji14) then (if (ji14) < (t363.length : Int) then ((some (t363.set ((ji14) : Int).toNat (⟨(rd_T38 t363 (ji14)).f0, (rd_T38 t363 (ji14)).f1, (rd_T38 t363 (ji14)).f2, (rd_T38 t363 (ji14)).f3, (rd_T38 t363 (ji14)).f4, (rd_T38 t363 (ji14)).f5, (rd_T38 t363 (ji14)).f6, x17_1⟩ : S38) : List (S38))).bind fun y366 => (if 0 ≤ (Int.tmod (wrap64 (a2)) (wrap64 ((ji14) + 1))) then (if (Int.tmod (wrap64 (a2)) (wrap64 ((ji14) + 1))) < (t363.length : Int) then ((some (y366.set ((Int.tmod (wrap64 (a2)) (wrap64 ((ji14) + 1))) : Int).toNat (⟨(rd_T38 y366 (Int.tmod (wrap64 (a2)) (wrap64 ((ji14) + 1)))).f0, (rd_T38 y366 (Int.tmod (wrap64 (a2)) (wrap64 ((ji14) + 1)))).f1, (rd_T38 y366 (Int.tmod (wrap64 (a2)) (wrap64 ((ji14) + 1)))).f2, true, (rd_T38 y366 (Int.tmod (wrap64 (a2)) (wrap64 ((ji14) + 1)))).f4, (rd_T38 y366 (Int.tmod (wrap64 (a2)) (wrap64 ((ji14) + 1)))).f5, (rd_T38 y366 (Int.tmod (wrap64 (a2)) (wrap64 ((ji14) + 1)))).f6, (rd_T38 y366 (Int.tmod (wrap64 (a2)) (wrap64 ((ji14) + 1)))).f7⟩ : S38) : List (S38))).bind fun y367 => (if 0 ≤ (wrap64 ((Int.tmod (wrap64 (a2)) (wrap64 ((ji14) + 1))) + (Int.tmod (wrap64 (a3)) (wrap64 ((wrap64 (1 + (wrap64 (Int.tmod a0 60)))) - (Int.tmod (wrap64 (a2)) (wrap64 ((ji14) + 1)))))))) then (if (wrap64 ((Int.tmod (wrap64 (a2)) (wrap64 ((ji14) + 1))) + (Int.tmod (wrap64 (a3)) (wrap64 ((wrap64 (1 + (wrap64 (Int.tmod a0 60)))) - (Int.tmod (wrap64 (a2)) (wrap64 ((ji14) + 1)))))))) < (t363.length : Int) then ((some (y367.set ((wrap64 ((Int.tmod (wrap64 (a2)) (wrap64 ((ji14) + 1))) + (Int.tmod (wrap64 (a3)) (wrap64 ((wrap64 (1 + (wrap64 (Int.tmod a0 60)))) - (Int.tmod (wrap64 (a2)) (wrap64 ((ji14) + 1)))))))) : Int).toNat (⟨(rd_T38 y367 (wrap64 ((Int.tmod (wrap64 (a2)) (wrap64 ((ji14) + 1))) + (Int.tmod (wrap64 (a3)) (wrap64 ((wrap64 (1 + (wrap64 (Int.tmod a0 60)))) - (Int.tmod (wrap64 (a2)) (wrap64 ((ji14) + 1))))))))).f0, (rd_T38 y367 (wrap64 ((Int.tmod (wrap64 (a2)) (wrap64 ((ji14) + 1))) + (Int.tmod (wrap64 (a3)) (wrap64 ((wrap64 (1 + (wrap64 (Int.tmod a0 60)))) - (Int.tmod (wrap64 (a2)) (wrap64 ((ji14) + 1))))))))).f1, (rd_T38 y367 (wrap64 ((Int.tmod (wrap64 (a2)) (wrap64 ((ji14) + 1))) + (Int.tmod (wrap64 (a3)) (wrap64 ((wrap64 (1 + (wrap64 (Int.tmod a0 60)))) - (Int.tmod (wrap64 (a2)) (wrap64 ((ji14) + 1))))))))).f2, (rd_T38 y367 (wrap64 ((Int.tmod (wrap64 (a2)) (wrap64 ((ji14) + 1))) + (Int.tmod (wrap64 (a3)) (wrap64 ((wrap64 (1 + (wrap64 (Int.tmod a0 60)))) - (Int.tmod (wrap64 (a2)) (wrap64 ((ji14) + 1))))))))).f3, (rd_T38 y367 (wrap64 ((Int.tmod (wrap64 (a2)) (wrap64 ((ji14) + 1))) + (Int.tmod (wrap64 (a3)) (wrap64 ((wrap64 (1 + (wrap64 (Int.tmod a0 60)))) - (Int.tmod (wrap64 (a2)) (wrap64 ((ji14) + 1))))))))).f4, (rd_T38 y367 (wrap64 ((Int.tmod (wrap64 (a2)) (wrap64 ((ji14) + 1))) + (Int.tmod (wrap64 (a3)) (wrap64 ((wrap64 (1 + (wrap64 (Int.tmod a0 60)))) - (Int.tmod (wrap64 (a2)) (wrap64 ((ji14) + 1))))))))).f5, true, (rd_T38 y367 (wrap64 ((Int.tmod (wrap64 (a2)) (wrap64 ((ji14) + 1))) + (Int.tmod (wrap64 (a3)) (wrap64 ((wrap64 (1 + (wrap64 (Int.tmod a0 60)))) - (Int.tmod (wrap64 (a2)) (wrap64 ((ji14) + 1))))))))).f7⟩ : S38) : List (S38))).bind fun y368 => ((some (y368.set ((wrap64 ((Int.tmod (wrap64 (a2)) (wrap64 ((ji14) + 1))) + (Int.tmod (wrap64 (a3)) (wrap64 ((wrap64 (1 + (wrap64 (Int.tmod a0 60)))) - (Int.tmod (wrap64 (a2)) (wrap64 ((ji14) + 1)))))))) : Int).toNat (⟨(rd_T38 y368 (wrap64 ((Int.tmod (wrap64 (a2)) (wrap64 ((ji14) + 1))) + (Int.tmod (wrap64 (a3)) (wrap64 ((wrap64 (1 + (wrap64 (Int.tmod a0 60)))) - (Int.tmod (wrap64 (a2)) (wrap64 ((ji14) + 1))))))))).f0, (rd_T38 y368 (wrap64 ((Int.tmod (wrap64 (a2)) (wrap64 ((ji14) + 1))) + (Int.tmod (wrap64 (a3)) (wrap64 ((wrap64 (1 + (wrap64 (Int.tmod a0 60)))) - (Int.tmod (wrap64 (a2)) (wrap64 ((ji14) + 1))))))))).f1, (rd_T38 y368 (wrap64 ((Int.tmod (wrap64 (a2)) (wrap64 ((ji14) + 1))) + (Int.tmod (wrap64 (a3)) (wrap64 ((wrap64 (1 + (wrap64 (Int.tmod a0 60)))) - (Int.tmod (wrap64 (a2)) (wrap64 ((ji14) + 1))))))))).f2, (rd_T38 y368 (wrap64 ((Int.tmod (wrap64 (a2)) (wrap64 ((ji14) + 1))) + (Int.tmod (wrap64 (a3)) (wrap64 ((wrap64 (1 + (wrap64 (Int.tmod a0 60)))) - (Int.tmod (wrap64 (a2)) (wrap64 ((ji14) + 1))))))))).f3, (rd_T38 y368 (wrap64 ((Int.tmod (wrap64 (a2)) (wrap64 ((ji14) + 1))) + (Int.tmod (wrap64 (a3)) (wrap64 ((wrap64 (1 + (wrap64 (Int.tmod a0 60)))) - (Int.tmod (wrap64 (a2)) (wrap64 ((ji14) + 1))))))))).f4, true, (rd_T38 y368 (wrap64 ((Int.tmod (wrap64 (a2)) (wrap64 ((ji14) + 1))) + (Int.tmod (wrap64 (a3)) (wrap64 ((wrap64 (1 + (wrap64 (Int.tmod a0 60)))) - (Int.tmod (wrap64 (a2)) (wrap64 ((ji14) + 1))))))))).f6, (rd_T38 y368 (wrap64 ((Int.tmod (wrap64 (a2)) (wrap64 ((ji14) + 1))) + (Int.tmod (wrap64 (a3)) (wrap64 ((wrap64 (1 + (wrap64 (Int.tmod a0 60)))) - (Int.tmod (wrap64 (a2)) (wrap64 ((ji14) + 1))))))))).f7⟩ : S38) : List (S38))).bind fun y369 => (if 0 ≤ (Int.tmod (wrap64 (a4)) (wrap64 (1 + (wrap64 (Int.tmod a0 60))))) then (if (Int.tmod (wrap64 (a4)) (wrap64 (1 + (wrap64 (Int.tmod a0 60))))) < (t363.length : Int) then ((some (y369.set ((Int.tmod (wrap64 (a4)) (wrap64 (1 + (wrap64 (Int.tmod a0 60))))) : Int).toNat (⟨(rd_T38 y369 (Int.tmod (wrap64 (a4)) (wrap64 (1 + (wrap64 (Int.tmod a0 60)))))).f0, (rd_T38 y369 (Int.tmod (wrap64 (a4)) (wrap64 (1 + (wrap64 (Int.tmod a0 60)))))).f1, (rd_T38 y369 (Int.tmod (wrap64 (a4)) (wrap64 (1 + (wrap64 (Int.tmod a0 60)))))).f2, (rd_T38 y369 (Int.tmod (wrap64 (a4)) (wrap64 (1 + (wrap64 (Int.tmod a0 60)))))).f3, true, (rd_T38 y369 (Int.tmod (wrap64 (a4)) (wrap64 (1 + (wrap64 (Int.tmod a0 60)))))).f5, (rd_T38 y369 (Int.tmod (wrap64 (a4)) (wrap64 (1 + (wrap64 (Int.tmod a0 60)))))).f6, (rd_T38 y369 (Int.tmod (wrap64 (a4)) (wrap64 (1 + (wrap64 (Int.tmod a0 60)))))).f7⟩ : S38) : List (S38))).bind fun y370 => (if x17_1 ≥ 4 then (partitalaw10_TurnsJumps.j1 k1 true (wrap64 (1 + (wrap64 (Int.tmod a0 60)))) (ji14) (Int.tmod (wrap64 (a2)) (wrap64 ((ji14) + 1))) (wrap64 ((Int.tmod (wrap64 (a2)) (wrap64 ((ji14) + 1))) + (Int.tmod (wrap64 (a3)) (wrap64 ((wrap64 (1 + (wrap64 (Int.tmod a0 60)))) - (Int.tmod (wrap64 (a2)) (wrap64 ((ji14) + 1)))))))) (Int.tmod (wrap64 (a4)) (wrap64 (1 + (wrap64 (Int.tmod a0 60))))) x17_1 y370 (Int.tmod (wrap64 (a2)) (wrap64 ((ji14) + 1)))) else (partitalaw10_TurnsJumps.j1 k1 true (wrap64 (1 + (wrap64 (Int.tmod a0 60)))) (ji14) (Int.tmod (wrap64 (a2)) (wrap64 ((ji14) + 1))) (wrap64 ((Int.tmod (wrap64 (a2)) (wrap64 ((ji14) + 1))) + (Int.tmod (wrap64 (a3)) (wrap64 ((wrap64 (1 + (wrap64 (Int.tmod a0 60)))) - (Int.tmod (wrap64 (a2)) (wrap64 ((ji14) + 1)))))))) (Int.tmod (wrap64 (a4)) (wrap64 (1 + (wrap64 (Int.tmod a0 60))))) x17_1 y370 0))) else (none)) else (none)))) else (none)) else (none))) else (none)) else (none))) else (none)) else (none)) = some r := by first | (rw [hji14] at H; exact H) | (simp only [hji14] at H ⊢; exact H)
                (try rw [hji14] at c9b0)
                (try rw [hji14] at c9b1)
                (try rw [hji14] at c10b0)
                (try rw [hji14] at c10b1)
                (try rw [hji14] at A13)
                by_cases c15 : 0 ≤ (ji14)
                · rw [if_pos c15] at H
                  have c15b0 : decide (0 ≤ (ji14)) = true := decide_eq_true c15
                  clear c15
                  by_cases c16 : (ji14) < (t363.length : Int)
                  · rw [if_pos c16] at H
                    have c16b0 : decide ((ji14) < (t363.length : Int)) = true := decide_eq_true c16
                    clear c16
                    obtain ⟨y366, hy366⟩ : ∃ y_ : List (S38), y_ = (t363.set ((ji14) : Int).toNat (⟨(rd_T38 t363 (ji14)).f0, (rd_T38 t363 (ji14)).f1, (rd_T38 t363 (ji14)).f2, (rd_T38 t363 (ji14)).f3, (rd_T38 t363 (ji14)).f4, (rd_T38 t363 (ji14)).f5, (rd_T38 t363 (ji14)).f6, x17_1⟩ : S38)) := ⟨_, rfl⟩
                    replace H : (if 0 ≤ (Int.tmod (wrap64 (a2)) (wrap64 ((ji14) + 1))) then (if (Int.tmod (wrap64 (a2)) (wrap64 ((ji14) + 1))) < (t363.length : Int) then ((some (y366.set ((Int.tmod (wrap64 (a2)) (wrap64 ((ji14) + 1))) : Int).toNat (⟨(rd_T38 y366 (Int.tmod (wrap64 (a2)) (wrap64 ((ji14) + 1)))).f0, (rd_T38 y366 (Int.tmod (wrap64 (a2)) (wrap64 ((ji14) + 1)))).f1, (rd_T38 y366 (Int.tmod (wrap64 (a2)) (wrap64 ((ji14) + 1)))).f2, true, (rd_T38 y366 (Int.tmod (wrap64 (a2)) (wrap64 ((ji14) + 1)))).f4, (rd_T38 y366 (Int.tmod (wrap64 (a2)) (wrap64 ((ji14) + 1)))).f5, (rd_T38 y366 (Int.tmod (wrap64 (a2)) (wrap64 ((ji14) + 1)))).f6, (rd_T38 y366 (Int.tmod (wrap64 (a2)) (wrap64 ((ji14) + 1)))).f7⟩ : S38) : List (S38))).bind fun y367 => (if 0 ≤ (wrap64 ((Int.tmod (wrap64 (a2)) (wrap64 ((ji14) + 1))) + (Int.tmod (wrap64 (a3)) (wrap64 ((wrap64 (1 + (wrap64 (Int.tmod a0 60)))) - (Int.tmod (wrap64 (a2)) (wrap64 ((ji14) + 1)))))))) then (if (wrap64 ((Int.tmod (wrap64 (a2)) (wrap64 ((ji14) + 1))) + (Int.tmod (wrap64 (a3)) (wrap64 ((wrap64 (1 + (wrap64 (Int.tmod a0 60)))) - (Int.tmod (wrap64 (a2)) (wrap64 ((ji14) + 1)))))))) < (t363.length : Int) then ((some (y367.set ((wrap64 ((Int.tmod (wrap64 (a2)) (wrap64 ((ji14) + 1))) + (Int.tmod (wrap64 (a3)) (wrap64 ((wrap64 (1 + (wrap64 (Int.tmod a0 60)))) - (Int.tmod (wrap64 (a2)) (wrap64 ((ji14) + 1)))))))) : Int).toNat (⟨(rd_T38 y367 (wrap64 ((Int.tmod (wrap64 (a2)) (wrap64 ((ji14) + 1))) + (Int.tmod (wrap64 (a3)) (wrap64 ((wrap64 (1 + (wrap64 (Int.tmod a0 60)))) - (Int.tmod (wrap64 (a2)) (wrap64 ((ji14) + 1))))))))).f0, (rd_T38 y367 (wrap64 ((Int.tmod (wrap64 (a2)) (wrap64 ((ji14) + 1))) + (Int.tmod (wrap64 (a3)) (wrap64 ((wrap64 (1 + (wrap64 (Int.tmod a0 60)))) - (Int.tmod (wrap64 (a2)) (wrap64 ((ji14) + 1))))))))).f1, (rd_T38 y367 (wrap64 ((Int.tmod (wrap64 (a2)) (wrap64 ((ji14) + 1))) + (Int.tmod (wrap64 (a3)) (wrap64 ((wrap64 (1 + (wrap64 (Int.tmod a0 60)))) - (Int.tmod (wrap64 (a2)) (wrap64 ((ji14) + 1))))))))).f2, (rd_T38 y367 (wrap64 ((Int.tmod (wrap64 (a2)) (wrap64 ((ji14) + 1))) + (Int.tmod (wrap64 (a3)) (wrap64 ((wrap64 (1 + (wrap64 (Int.tmod a0 60)))) - (Int.tmod (wrap64 (a2)) (wrap64 ((ji14) + 1))))))))).f3, (rd_T38 y367 (wrap64 ((Int.tmod (wrap64 (a2)) (wrap64 ((ji14) + 1))) + (Int.tmod (wrap64 (a3)) (wrap64 ((wrap64 (1 + (wrap64 (Int.tmod a0 60)))) - (Int.tmod (wrap64 (a2)) (wrap64 ((ji14) + 1))))))))).f4, (rd_T38 y367 (wrap64 ((Int.tmod (wrap64 (a2)) (wrap64 ((ji14) + 1))) + (Int.tmod (wrap64 (a3)) (wrap64 ((wrap64 (1 + (wrap64 (Int.tmod a0 60)))) - (Int.tmod (wrap64 (a2)) (wrap64 ((ji14) + 1))))))))).f5, true, (rd_T38 y367 (wrap64 ((Int.tmod (wrap64 (a2)) (wrap64 ((ji14) + 1))) + (Int.tmod (wrap64 (a3)) (wrap64 ((wrap64 (1 + (wrap64 (Int.tmod a0 60)))) - (Int.tmod (wrap64 (a2)) (wrap64 ((ji14) + 1))))))))).f7⟩ : S38) : List (S38))).bind fun y368 => ((some (y368.set ((wrap64 ((Int.tmod (wrap64 (a2)) (wrap64 ((ji14) + 1))) + (Int.tmod (wrap64 (a3)) (wrap64 ((wrap64 (1 + (wrap64 (Int.tmod a0 60)))) - (Int.tmod (wrap64 (a2)) (wrap64 ((ji14) + 1)))))))) : Int).toNat (⟨(rd_T38 y368 (wrap64 ((Int.tmod (wrap64 (a2)) (wrap64 ((ji14) + 1))) + (Int.tmod (wrap64 (a3)) (wrap64 ((wrap64 (1 + (wrap64 (Int.tmod a0 60)))) - (Int.tmod (wrap64 (a2)) (wrap64 ((ji14) + 1))))))))).f0, (rd_T38 y368 (wrap64 ((Int.tmod (wrap64 (a2)) (wrap64 ((ji14) + 1))) + (Int.tmod (wrap64 (a3)) (wrap64 ((wrap64 (1 + (wrap64 (Int.tmod a0 60)))) - (Int.tmod (wrap64 (a2)) (wrap64 ((ji14) + 1))))))))).f1, (rd_T38 y368 (wrap64 ((Int.tmod (wrap64 (a2)) (wrap64 ((ji14) + 1))) + (Int.tmod (wrap64 (a3)) (wrap64 ((wrap64 (1 + (wrap64 (Int.tmod a0 60)))) - (Int.tmod (wrap64 (a2)) (wrap64 ((ji14) + 1))))))))).f2, (rd_T38 y368 (wrap64 ((Int.tmod (wrap64 (a2)) (wrap64 ((ji14) + 1))) + (Int.tmod (wrap64 (a3)) (wrap64 ((wrap64 (1 + (wrap64 (Int.tmod a0 60)))) - (Int.tmod (wrap64 (a2)) (wrap64 ((ji14) + 1))))))))).f3, (rd_T38 y368 (wrap64 ((Int.tmod (wrap64 (a2)) (wrap64 ((ji14) + 1))) + (Int.tmod (wrap64 (a3)) (wrap64 ((wrap64 (1 + (wrap64 (Int.tmod a0 60)))) - (Int.tmod (wrap64 (a2)) (wrap64 ((ji14) + 1))))))))).f4, true, (rd_T38 y368 (wrap64 ((Int.tmod (wrap64 (a2)) (wrap64 ((ji14) + 1))) + (Int.tmod (wrap64 (a3)) (wrap64 ((wrap64 (1 + (wrap64 (Int.tmod a0 60)))) - (Int.tmod (wrap64 (a2)) (wrap64 ((ji14) + 1))))))))).f6, (rd_T38 y368 (wrap64 ((Int.tmod (wrap64 (a2)) (wrap64 ((ji14) + 1))) + (Int.tmod (wrap64 (a3)) (wrap64 ((wrap64 (1 + (wrap64 (Int.tmod a0 60)))) - (Int.tmod (wrap64 (a2)) (wrap64 ((ji14) + 1))))))))).f7⟩ : S38) : List (S38))).bind fun y369 => (if 0 ≤ (Int.tmod (wrap64 (a4)) (wrap64 (1 + (wrap64 (Int.tmod a0 60))))) then (if (Int.tmod (wrap64 (a4)) (wrap64 (1 + (wrap64 (Int.tmod a0 60))))) < (t363.length : Int) then ((some (y369.set ((Int.tmod (wrap64 (a4)) (wrap64 (1 + (wrap64 (Int.tmod a0 60))))) : Int).toNat (⟨(rd_T38 y369 (Int.tmod (wrap64 (a4)) (wrap64 (1 + (wrap64 (Int.tmod a0 60)))))).f0, (rd_T38 y369 (Int.tmod (wrap64 (a4)) (wrap64 (1 + (wrap64 (Int.tmod a0 60)))))).f1, (rd_T38 y369 (Int.tmod (wrap64 (a4)) (wrap64 (1 + (wrap64 (Int.tmod a0 60)))))).f2, (rd_T38 y369 (Int.tmod (wrap64 (a4)) (wrap64 (1 + (wrap64 (Int.tmod a0 60)))))).f3, true, (rd_T38 y369 (Int.tmod (wrap64 (a4)) (wrap64 (1 + (wrap64 (Int.tmod a0 60)))))).f5, (rd_T38 y369 (Int.tmod (wrap64 (a4)) (wrap64 (1 + (wrap64 (Int.tmod a0 60)))))).f6, (rd_T38 y369 (Int.tmod (wrap64 (a4)) (wrap64 (1 + (wrap64 (Int.tmod a0 60)))))).f7⟩ : S38) : List (S38))).bind fun y370 => (if x17_1 ≥ 4 then (partitalaw10_TurnsJumps.j1 k1 true (wrap64 (1 + (wrap64 (Int.tmod a0 60)))) (ji14) (Int.tmod (wrap64 (a2)) (wrap64 ((ji14) + 1))) (wrap64 ((Int.tmod (wrap64 (a2)) (wrap64 ((ji14) + 1))) + (Int.tmod (wrap64 (a3)) (wrap64 ((wrap64 (1 + (wrap64 (Int.tmod a0 60)))) - (Int.tmod (wrap64 (a2)) (wrap64 ((ji14) + 1)))))))) (Int.tmod (wrap64 (a4)) (wrap64 (1 + (wrap64 (Int.tmod a0 60))))) x17_1 y370 (Int.tmod (wrap64 (a2)) (wrap64 ((ji14) + 1)))) else (partitalaw10_TurnsJumps.j1 k1 true (wrap64 (1 + (wrap64 (Int.tmod a0 60)))) (ji14) (Int.tmod (wrap64 (a2)) (wrap64 ((ji14) + 1))) (wrap64 ((Int.tmod (wrap64 (a2)) (wrap64 ((ji14) + 1))) + (Int.tmod (wrap64 (a3)) (wrap64 ((wrap64 (1 + (wrap64 (Int.tmod a0 60)))) - (Int.tmod (wrap64 (a2)) (wrap64 ((ji14) + 1)))))))) (Int.tmod (wrap64 (a4)) (wrap64 (1 + (wrap64 (Int.tmod a0 60))))) x17_1 y370 0))) else (none)) else (none)))) else (none)) else (none))) else (none)) else (none)) = some r := by first | (rw [hy366]; with_reducible exact H) | (have H2_ := (Option.bind_some _ _).symm.trans H; rw [hy366]; with_reducible exact H2_) | (have H2_ := (Option.bind_some _ _).symm.trans H; with_reducible exact H2_) | with_reducible exact H | (rw [hy366]; exact H) | exact H
                    have Ny366 := Aside0.mk hy366
                    clear hy366
                    obtain ⟨ji18, hji18⟩ : ∃ j_ : Int, (Int.tmod (wrap64 (a2)) (wrap64 ((ji14) + 1))) = j_ := ⟨_, rfl⟩
                    replace H : (if 0 ≤ (ji18) then (if (ji18) < (t363.length : Int) then ((some (y366.set ((ji18) : Int).toNat (⟨(rd_T38 y366 (ji18)).f0, (rd_T38 y366 (ji18)).f1, (rd_T38 y366 (ji18)).f2, true, (rd_T38 y366 (ji18)).f4, (rd_T38 y366 (ji18)).f5, (rd_T38 y366 (ji18)).f6, (rd_T38 y366 (ji18)).f7⟩ : S38) : List (S38))).bind fun y367 => (if 0 ≤ (wrap64 ((ji18) + (Int.tmod (wrap64 (a3)) (wrap64 ((wrap64 (1 + (wrap64 (Int.tmod a0 60)))) - (ji18)))))) then (if (wrap64 ((ji18) + (Int.tmod (wrap64 (a3)) (wrap64 ((wrap64 (1 + (wrap64 (Int.tmod a0 60)))) - (ji18)))))) < (t363.length : Int) then ((some (y367.set ((wrap64 ((ji18) + (Int.tmod (wrap64 (a3)) (wrap64 ((wrap64 (1 + (wrap64 (Int.tmod a0 60)))) - (ji18)))))) : Int).toNat (⟨(rd_T38 y367 (wrap64 ((ji18) + (Int.tmod (wrap64 (a3)) (wrap64 ((wrap64 (1 + (wrap64 (Int.tmod a0 60)))) - (ji18))))))).f0, (rd_T38 y367 (wrap64 ((ji18) + (Int.tmod (wrap64 (a3)) (wrap64 ((wrap64 (1 + (wrap64 (Int.tmod a0 60)))) - (ji18))))))).f1, (rd_T38 y367 (wrap64 ((ji18) + (Int.tmod (wrap64 (a3)) (wrap64 ((wrap64 (1 + (wrap64 (Int.tmod a0 60)))) - (ji18))))))).f2, (rd_T38 y367 (wrap64 ((ji18) + (Int.tmod (wrap64 (a3)) (wrap64 ((wrap64 (1 + (wrap64 (Int.tmod a0 60)))) - (ji18))))))).f3, (rd_T38 y367 (wrap64 ((ji18) + (Int.tmod (wrap64 (a3)) (wrap64 ((wrap64 (1 + (wrap64 (Int.tmod a0 60)))) - (ji18))))))).f4, (rd_T38 y367 (wrap64 ((ji18) + (Int.tmod (wrap64 (a3)) (wrap64 ((wrap64 (1 + (wrap64 (Int.tmod a0 60)))) - (ji18))))))).f5, true, (rd_T38 y367 (wrap64 ((ji18) + (Int.tmod (wrap64 (a3)) (wrap64 ((wrap64 (1 + (wrap64 (Int.tmod a0 60)))) - (ji18))))))).f7⟩ : S38) : List (S38))).bind fun y368 => ((some (y368.set ((wrap64 ((ji18) + (Int.tmod (wrap64 (a3)) (wrap64 ((wrap64 (1 + (wrap64 (Int.tmod a0 60)))) - (ji18)))))) : Int).toNat (⟨(rd_T38 y368 (wrap64 ((ji18) + (Int.tmod (wrap64 (a3)) (wrap64 ((wrap64 (1 + (wrap64 (Int.tmod a0 60)))) - (ji18))))))).f0, (rd_T38 y368 (wrap64 ((ji18) + (Int.tmod (wrap64 (a3)) (wrap64 ((wrap64 (1 + (wrap64 (Int.tmod a0 60)))) - (ji18))))))).f1, (rd_T38 y368 (wrap64 ((ji18) + (Int.tmod (wrap64 (a3)) (wrap64 ((wrap64 (1 + (wrap64 (Int.tmod a0 60)))) - (ji18))))))).f2, (rd_T38 y368 (wrap64 ((ji18) + (Int.tmod (wrap64 (a3)) (wrap64 ((wrap64 (1 + (wrap64 (Int.tmod a0 60)))) - (ji18))))))).f3, (rd_T38 y368 (wrap64 ((ji18) + (Int.tmod (wrap64 (a3)) (wrap64 ((wrap64 (1 + (wrap64 (Int.tmod a0 60)))) - (ji18))))))).f4, true, (rd_T38 y368 (wrap64 ((ji18) + (Int.tmod (wrap64 (a3)) (wrap64 ((wrap64 (1 + (wrap64 (Int.tmod a0 60)))) - (ji18))))))).f6, (rd_T38 y368 (wrap64 ((ji18) + (Int.tmod (wrap64 (a3)) (wrap64 ((wrap64 (1 + (wrap64 (Int.tmod a0 60)))) - (ji18))))))).f7⟩ : S38) : List (S38))).bind fun y369 => (if 0 ≤ (Int.tmod (wrap64 (a4)) (wrap64 (1 + (wrap64 (Int.tmod a0 60))))) then (if (Int.tmod (wrap64 (a4)) (wrap64 (1 + (wrap64 (Int.tmod a0 60))))) < (t363.length : Int) then ((some (y369.set ((Int.tmod (wrap64 (a4)) (wrap64 (1 + (wrap64 (Int.tmod a0 60))))) : Int).toNat (⟨(rd_T38 y369 (Int.tmod (wrap64 (a4)) (wrap64 (1 + (wrap64 (Int.tmod a0 60)))))).f0, (rd_T38 y369 (Int.tmod (wrap64 (a4)) (wrap64 (1 + (wrap64 (Int.tmod a0 60)))))).f1, (rd_T38 y369 (Int.tmod (wrap64 (a4)) (wrap64 (1 + (wrap64 (Int.tmod a0 60)))))).f2, (rd_T38 y369 (Int.tmod (wrap64 (a4)) (wrap64 (1 + (wrap64 (Int.tmod a0 60)))))).f3, true, (rd_T38 y369 (Int.tmod (wrap64 (a4)) (wrap64 (1 + (wrap64 (Int.tmod a0 60)))))).f5, (rd_T38 y369 (Int.tmod (wrap64 (a4)) (wrap64 (1 + (wrap64 (Int.tmod a0 60)))))).f6, (rd_T38 y369 (Int.tmod (wrap64 (a4)) (wrap64 (1 + (wrap64 (Int.tmod a0 60)))))).f7⟩ : S38) : List (S38))).bind fun y370 => (if x17_1 ≥ 4 then (partitalaw10_TurnsJumps.j1 k1 true (wrap64 (1 + (wrap64 (Int.tmod a0 60)))) (ji14) (ji18) (wrap64 ((ji18) + (Int.tmod (wrap64 (a3)) (wrap64 ((wrap64 (1 + (wrap64 (Int.tmod a0 60)))) - (ji18)))))) (Int.tmod (wrap64 (a4)) (wrap64 (1 + (wrap64 (Int.tmod a0 60))))) x17_1 y370 (ji18)) else (partitalaw10_TurnsJumps.j1 k1 true (wrap64 (1 + (wrap64 (Int.tmod a0 60)))) (ji14) (ji18) (wrap64 ((ji18) + (Int.tmod (wrap64 (a3)) (wrap64 ((wrap64 (1 + (wrap64 (Int.tmod a0 60)))) - (ji18)))))) (Int.tmod (wrap64 (a4)) (wrap64 (1 + (wrap64 (Int.tmod a0 60))))) x17_1 y370 0))) else (none)) else (none)))) else (none)) else (none))) else (none)) else (none)) = some r := by first | (rw [hji18] at H; exact H) | (simp only [hji18] at H ⊢; exact H)
                    (try rw [hji18] at A13)
                    by_cases c19 : 0 ≤ (ji18)
                    · rw [if_pos c19] at H
                      have c19b0 : decide (0 ≤ (ji18)) = true := decide_eq_true c19
                      clear c19
                      by_cases c20 : (ji18) < (t363.length : Int)
                      · rw [if_pos c20] at H
                        have c20b0 : decide ((ji18) < (t363.length : Int)) = true := decide_eq_true c20
                        clear c20
                        obtain ⟨y367, hy367⟩ : ∃ y_ : List (S38), y_ = (y366.set ((ji18) : Int).toNat (⟨(rd_T38 y366 (ji18)).f0, (rd_T38 y366 (ji18)).f1, (rd_T38 y366 (ji18)).f2, true, (rd_T38 y366 (ji18)).f4, (rd_T38 y366 (ji18)).f5, (rd_T38 y366 (ji18)).f6, (rd_T38 y366 (ji18)).f7⟩ : S38)) := ⟨_, rfl⟩
                        replace H : (if 0 ≤ (wrap64 ((ji18) + (Int.tmod (wrap64 (a3)) (wrap64 ((wrap64 (1 + (wrap64 (Int.tmod a0 60)))) - (ji18)))))) then (if (wrap64 ((ji18) + (Int.tmod (wrap64 (a3)) (wrap64 ((wrap64 (1 + (wrap64 (Int.tmod a0 60)))) - (ji18)))))) < (t363.length : Int) then ((some (y367.set ((wrap64 ((ji18) + (Int.tmod (wrap64 (a3)) (wrap64 ((wrap64 (1 + (wrap64 (Int.tmod a0 60)))) - (ji18)))))) : Int).toNat (⟨(rd_T38 y367 (wrap64 ((ji18) + (Int.tmod (wrap64 (a3)) (wrap64 ((wrap64 (1 + (wrap64 (Int.tmod a0 60)))) - (ji18))))))).f0, (rd_T38 y367 (wrap64 ((ji18) + (Int.tmod (wrap64 (a3)) (wrap64 ((wrap64 (1 + (wrap64 (Int.tmod a0 60)))) - (ji18))))))).f1, (rd_T38 y367 (wrap64 ((ji18) + (Int.tmod (wrap64 (a3)) (wrap64 ((wrap64 (1 + (wrap64 (Int.tmod a0 60)))) - (ji18))))))).f2, (rd_T38 y367 (wrap64 ((ji18) + (Int.tmod (wrap64 (a3)) (wrap64 ((wrap64 (1 + (wrap64 (Int.tmod a0 60)))) - (ji18))))))).f3, (rd_T38 y367 (wrap64 ((ji18) + (Int.tmod (wrap64 (a3)) (wrap64 ((wrap64 (1 + (wrap64 (Int.tmod a0 60)))) - (ji18))))))).f4, (rd_T38 y367 (wrap64 ((ji18) + (Int.tmod (wrap64 (a3)) (wrap64 ((wrap64 (1 + (wrap64 (Int.tmod a0 60)))) - (ji18))))))).f5, true, (rd_T38 y367 (wrap64 ((ji18) + (Int.tmod (wrap64 (a3)) (wrap64 ((wrap64 (1 + (wrap64 (Int.tmod a0 60)))) - (ji18))))))).f7⟩ : S38) : List (S38))).bind fun y368 => ((some (y368.set ((wrap64 ((ji18) + (Int.tmod (wrap64 (a3)) (wrap64 ((wrap64 (1 + (wrap64 (Int.tmod a0 60)))) - (ji18)))))) : Int).toNat (⟨(rd_T38 y368 (wrap64 ((ji18) + (Int.tmod (wrap64 (a3)) (wrap64 ((wrap64 (1 + (wrap64 (Int.tmod a0 60)))) - (ji18))))))).f0, (rd_T38 y368 (wrap64 ((ji18) + (Int.tmod (wrap64 (a3)) (wrap64 ((wrap64 (1 + (wrap64 (Int.tmod a0 60)))) - (ji18))))))).f1, (rd_T38 y368 (wrap64 ((ji18) + (Int.tmod (wrap64 (a3)) (wrap64 ((wrap64 (1 + (wrap64 (Int.tmod a0 60)))) - (ji18))))))).f2, (rd_T38 y368 (wrap64 ((ji18) + (Int.tmod (wrap64 (a3)) (wrap64 ((wrap64 (1 + (wrap64 (Int.tmod a0 60)))) - (ji18))))))).f3, (rd_T38 y368 (wrap64 ((ji18) + (Int.tmod (wrap64 (a3)) (wrap64 ((wrap64 (1 + (wrap64 (Int.tmod a0 60)))) - (ji18))))))).f4, true, (rd_T38 y368 (wrap64 ((ji18) + (Int.tmod (wrap64 (a3)) (wrap64 ((wrap64 (1 + (wrap64 (Int.tmod a0 60)))) - (ji18))))))).f6, (rd_T38 y368 (wrap64 ((ji18) + (Int.tmod (wrap64 (a3)) (wrap64 ((wrap64 (1 + (wrap64 (Int.tmod a0 60)))) - (ji18))))))).f7⟩ : S38) : List (S38))).bind fun y369 => (if 0 ≤ (Int.tmod (wrap64 (a4)) (wrap64 (1 + (wrap64 (Int.tmod a0 60))))) then (if (Int.tmod (wrap64 (a4)) (wrap64 (1 + (wrap64 (Int.tmod a0 60))))) < (t363.length : Int) then ((some (y369.set ((Int.tmod (wrap64 (a4)) (wrap64 (1 + (wrap64 (Int.tmod a0 60))))) : Int).toNat (⟨(rd_T38 y369 (Int.tmod (wrap64 (a4)) (wrap64 (1 + (wrap64 (Int.tmod a0 60)))))).f0, (rd_T38 y369 (Int.tmod (wrap64 (a4)) (wrap64 (1 + (wrap64 (Int.tmod a0 60)))))).f1, (rd_T38 y369 (Int.tmod (wrap64 (a4)) (wrap64 (1 + (wrap64 (Int.tmod a0 60)))))).f2, (rd_T38 y369 (Int.tmod (wrap64 (a4)) (wrap64 (1 + (wrap64 (Int.tmod a0 60)))))).f3, true, (rd_T38 y369 (Int.tmod (wrap64 (a4)) (wrap64 (1 + (wrap64 (Int.tmod a0 60)))))).f5, (rd_T38 y369 (Int.tmod (wrap64 (a4)) (wrap64 (1 + (wrap64 (Int.tmod a0 60)))))).f6, (rd_T38 y369 (Int.tmod (wrap64 (a4)) (wrap64 (1 + (wrap64 (Int.tmod a0 60)))))).f7⟩ : S38) : List (S38))).bind fun y370 => (if x17_1 ≥ 4 then (partitalaw10_TurnsJumps.j1 k1 true (wrap64 (1 + (wrap64 (Int.tmod a0 60)))) (ji14) (ji18) (wrap64 ((ji18) + (Int.tmod (wrap64 (a3)) (wrap64 ((wrap64 (1 + (wrap64 (Int.tmod a0 60)))) - (ji18)))))) (Int.tmod (wrap64 (a4)) (wrap64 (1 + (wrap64 (Int.tmod a0 60))))) x17_1 y370 (ji18)) else (partitalaw10_TurnsJumps.j1 k1 true (wrap64 (1 + (wrap64 (Int.tmod a0 60)))) (ji14) (ji18) (wrap64 ((ji18) + (Int.tmod (wrap64 (a3)) (wrap64 ((wrap64 (1 + (wrap64 (Int.tmod a0 60)))) - (ji18)))))) (Int.tmod (wrap64 (a4)) (wrap64 (1 + (wrap64 (Int.tmod a0 60))))) x17_1 y370 0))) else (none)) else (none)))) else (none)) else (none)) = some r := by first | (rw [hy367]; with_reducible exact H) | (have H2_ := (Option.bind_some _ _).symm.trans H; rw [hy367]; with_reducible exact H2_) | (have H2_ := (Option.bind_some _ _).symm.trans H; with_reducible exact H2_) | with_reducible exact H | (rw [hy367]; exact H) | exact H
                        have Ny367 := Aside0.mk hy367
                        clear hy367
                        obtain ⟨ji22, hji22⟩ : ∃ j_ : Int, (wrap64 ((ji18) + (Int.tmod (wrap64 (a3)) (wrap64 ((wrap64 (1 + (wrap64 (Int.tmod a0 60)))) - (ji18)))))) = j_ := ⟨_, rfl⟩
                        replace H : (if 0 ≤ (ji22) then (if (ji22) < (t363.length : Int) then ((some (y367.set ((ji22) : Int).toNat (⟨(rd_T38 y367 (ji22)).f0, (rd_T38 y367 (ji22)).f1, (rd_T38 y367 (ji22)).f2, (rd_T38 y367 (ji22)).f3, (rd_T38 y367 (ji22)).f4, (rd_T38 y367 (ji22)).f5, true, (rd_T38 y367 (ji22)).f7⟩ : S38) : List (S38))).bind fun y368 => ((some (y368.set ((ji22) : Int).toNat (⟨(rd_T38 y368 (ji22)).f0, (rd_T38 y368 (ji22)).f1, (rd_T38 y368 (ji22)).f2, (rd_T38 y368 (ji22)).f3, (rd_T38 y368 (ji22)).f4, true, (rd_T38 y368 (ji22)).f6, (rd_T38 y368 (ji22)).f7⟩ : S38) : List (S38))).bind fun y369 => (if 0 ≤ (Int.tmod (wrap64 (a4)) (wrap64 (1 + (wrap64 (Int.tmod a0 60))))) then (if (Int.tmod (wrap64 (a4)) (wrap64 (1 + (wrap64 (Int.tmod a0 60))))) < (t363.length : Int) then ((some (y369.set ((Int.tmod (wrap64 (a4)) (wrap64 (1 + (wrap64 (Int.tmod a0 60))))) : Int).toNat (⟨(rd_T38 y369 (Int.tmod (wrap64 (a4)) (wrap64 (1 + (wrap64 (Int.tmod a0 60)))))).f0, (rd_T38 y369 (Int.tmod (wrap64 (a4)) (wrap64 (1 + (wrap64 (Int.tmod a0 60)))))).f1, (rd_T38 y369 (Int.tmod (wrap64 (a4)) (wrap64 (1 + (wrap64 (Int.tmod a0 60)))))).f2, (rd_T38 y369 (Int.tmod (wrap64 (a4)) (wrap64 (1 + (wrap64 (Int.tmod a0 60)))))).f3, true, (rd_T38 y369 (Int.tmod (wrap64 (a4)) (wrap64 (1 + (wrap64 (Int.tmod a0 60)))))).f5, (rd_T38 y369 (Int.tmod (wrap64 (a4)) (wrap64 (1 + (wrap64 (Int.tmod a0 60)))))).f6, (rd_T38 y369 (Int.tmod (wrap64 (a4)) (wrap64 (1 + (wrap64 (Int.tmod a0 60)))))).f7⟩ : S38) : List (S38))).bind fun y370 => (if x17_1 ≥ 4 then (partitalaw10_TurnsJumps.j1 k1 true (wrap64 (1 + (wrap64 (Int.tmod a0 60)))) (ji14) (ji18) (ji22) (Int.tmod (wrap64 (a4)) (wrap64 (1 + (wrap64 (Int.tmod a0 60))))) x17_1 y370 (ji18)) else (partitalaw10_TurnsJumps.j1 k1 true (wrap64 (1 + (wrap64 (Int.tmod a0 60)))) (ji14) (ji18) (ji22) (Int.tmod (wrap64 (a4)) (wrap64 (1 + (wrap64 (Int.tmod a0 60))))) x17_1 y370 0))) else (none)) else (none)))) else (none)) else (none)) = some r := by first | (rw [hji22] at H; exact H) | (simp only [hji22] at H ⊢; exact H)
                        (try rw [hji22] at A13)
                        have hji22w : (IntKind.i64.wrap ((ji18) + (Int.tmod (wrap64 (a3)) (wrap64 ((wrap64 (1 + (wrap64 (Int.tmod a0 60)))) - (ji18)))))) = ji22 := (i64_w _).trans hji22
                        by_cases c23 : 0 ≤ (ji22)
                        · rw [if_pos c23] at H
                          have c23b0 : decide (0 ≤ (ji22)) = true := decide_eq_true c23
                          clear c23
                          by_cases c24 : (ji22) < (t363.length : Int)
                          · rw [if_pos c24] at H
                            have c24b0 : decide ((ji22) < (t363.length : Int)) = true := decide_eq_true c24
                            clear c24
                            obtain ⟨y368, hy368⟩ : ∃ y_ : List (S38), y_ = (y367.set ((ji22) : Int).toNat (⟨(rd_T38 y367 (ji22)).f0, (rd_T38 y367 (ji22)).f1, (rd_T38 y367 (ji22)).f2, (rd_T38 y367 (ji22)).f3, (rd_T38 y367 (ji22)).f4, (rd_T38 y367 (ji22)).f5, true, (rd_T38 y367 (ji22)).f7⟩ : S38)) := ⟨_, rfl⟩
                            replace H : ((some (y368.set ((ji22) : Int).toNat (⟨(rd_T38 y368 (ji22)).f0, (rd_T38 y368 (ji22)).f1, (rd_T38 y368 (ji22)).f2, (rd_T38 y368 (ji22)).f3, (rd_T38 y368 (ji22)).f4, true, (rd_T38 y368 (ji22)).f6, (rd_T38 y368 (ji22)).f7⟩ : S38) : List (S38))).bind fun y369 => (if 0 ≤ (Int.tmod (wrap64 (a4)) (wrap64 (1 + (wrap64 (Int.tmod a0 60))))) then (if (Int.tmod (wrap64 (a4)) (wrap64 (1 + (wrap64 (Int.tmod a0 60))))) < (t363.length : Int) then ((some (y369.set ((Int.tmod (wrap64 (a4)) (wrap64 (1 + (wrap64 (Int.tmod a0 60))))) : Int).toNat (⟨(rd_T38 y369 (Int.tmod (wrap64 (a4)) (wrap64 (1 + (wrap64 (Int.tmod a0 60)))))).f0, (rd_T38 y369 (Int.tmod (wrap64 (a4)) (wrap64 (1 + (wrap64 (Int.tmod a0 60)))))).f1, (rd_T38 y369 (Int.tmod (wrap64 (a4)) (wrap64 (1 + (wrap64 (Int.tmod a0 60)))))).f2, (rd_T38 y369 (Int.tmod (wrap64 (a4)) (wrap64 (1 + (wrap64 (Int.tmod a0 60)))))).f3, true, (rd_T38 y369 (Int.tmod (wrap64 (a4)) (wrap64 (1 + (wrap64 (Int.tmod a0 60)))))).f5, (rd_T38 y369 (Int.tmod (wrap64 (a4)) (wrap64 (1 + (wrap64 (Int.tmod a0 60)))))).f6, (rd_T38 y369 (Int.tmod (wrap64 (a4)) (wrap64 (1 + (wrap64 (Int.tmod a0 60)))))).f7⟩ : S38) : List (S38))).bind fun y370 => (if x17_1 ≥ 4 then (partitalaw10_TurnsJumps.j1 k1 true (wrap64 (1 + (wrap64 (Int.tmod a0 60)))) (ji14) (ji18) (ji22) (Int.tmod (wrap64 (a4)) (wrap64 (1 + (wrap64 (Int.tmod a0 60))))) x17_1 y370 (ji18)) else (partitalaw10_TurnsJumps.j1 k1 true (wrap64 (1 + (wrap64 (Int.tmod a0 60)))) (ji14) (ji18) (ji22) (Int.tmod (wrap64 (a4)) (wrap64 (1 + (wrap64 (Int.tmod a0 60))))) x17_1 y370 0))) else (none)) else (none))) = some r := by first | (rw [hy368]; with_reducible exact H) | (have H2_ := (Option.bind_some _ _).symm.trans H; rw [hy368]; with_reducible exact H2_) | (have H2_ := (Option.bind_some _ _).symm.trans H; with_reducible exact H2_) | with_reducible exact H | (rw [hy368]; exact H) | exact H
                            have Ny368 := Aside0.mk hy368
                            clear hy368
                            obtain ⟨y369, hy369⟩ : ∃ y_ : List (S38), y_ = (y368.set ((ji22) : Int).toNat (⟨(rd_T38 y368 (ji22)).f0, (rd_T38 y368 (ji22)).f1, (rd_T38 y368 (ji22)).f2, (rd_T38 y368 (ji22)).f3, (rd_T38 y368 (ji22)).f4, true, (rd_T38 y368 (ji22)).f6, (rd_T38 y368 (ji22)).f7⟩ : S38)) := ⟨_, rfl⟩
                            replace H : (if 0 ≤ (Int.tmod (wrap64 (a4)) (wrap64 (1 + (wrap64 (Int.tmod a0 60))))) then (if (Int.tmod (wrap64 (a4)) (wrap64 (1 + (wrap64 (Int.tmod a0 60))))) < (t363.length : Int) then ((some (y369.set ((Int.tmod (wrap64 (a4)) (wrap64 (1 + (wrap64 (Int.tmod a0 60))))) : Int).toNat (⟨(rd_T38 y369 (Int.tmod (wrap64 (a4)) (wrap64 (1 + (wrap64 (Int.tmod a0 60)))))).f0, (rd_T38 y369 (Int.tmod (wrap64 (a4)) (wrap64 (1 + (wrap64 (Int.tmod a0 60)))))).f1, (rd_T38 y369 (Int.tmod (wrap64 (a4)) (wrap64 (1 + (wrap64 (Int.tmod a0 60)))))).f2, (rd_T38 y369 (Int.tmod (wrap64 (a4)) (wrap64 (1 + (wrap64 (Int.tmod a0 60)))))).f3, true, (rd_T38 y369 (Int.tmod (wrap64 (a4)) (wrap64 (1 + (wrap64 (Int.tmod a0 60)))))).f5, (rd_T38 y369 (Int.tmod (wrap64 (a4)) (wrap64 (1 + (wrap64 (Int.tmod a0 60)))))).f6, (rd_T38 y369 (Int.tmod (wrap64 (a4)) (wrap64 (1 + (wrap64 (Int.tmod a0 60)))))).f7⟩ : S38) : List (S38))).bind fun y370 => (if x17_1 ≥ 4 then (partitalaw10_TurnsJumps.j1 k1 true (wrap64 (1 + (wrap64 (Int.tmod a0 60)))) (ji14) (ji18) (ji22) (Int.tmod (wrap64 (a4)) (wrap64 (1 + (wrap64 (Int.tmod a0 60))))) x17_1 y370 (ji18)) else (partitalaw10_TurnsJumps.j1 k1 true (wrap64 (1 + (wrap64 (Int.tmod a0 60)))) (ji14) (ji18) (ji22) (Int.tmod (wrap64 (a4)) (wrap64 (1 + (wrap64 (Int.tmod a0 60))))) x17_1 y370 0))) else (none)) else (none)) = some r := by first | (rw [hy369]; with_reducible exact H) | (have H2_ := (Option.bind_some _ _).symm.trans H; rw [hy369]; with_reducible exact H2_) | (have H2_ := (Option.bind_some _ _).symm.trans H; with_reducible exact H2_) | with_reducible exact H | (rw [hy369]; exact H) | exact H
                            have Ny369 := Aside0.mk hy369
                            clear hy369
                            obtain ⟨ji27, hji27⟩ : ∃ j_ : Int, (Int.tmod (wrap64 (a4)) (wrap64 (1 + (wrap64 (Int.tmod a0 60))))) = j_ := ⟨_, rfl⟩
                            replace H : (if 0 ≤ (ji27) then (if (ji27) < (t363.length : Int) then ((some (y369.set ((ji27) : Int).toNat (⟨(rd_T38 y369 (ji27)).f0, (rd_T38 y369 (ji27)).f1, (rd_T38 y369 (ji27)).f2, (rd_T38 y369 (ji27)).f3, true, (rd_T38 y369 (ji27)).f5, (rd_T38 y369 (ji27)).f6, (rd_T38 y369 (ji27)).f7⟩ : S38) : List (S38))).bind fun y370 => (if x17_1 ≥ 4 then (partitalaw10_TurnsJumps.j1 k1 true (wrap64 (1 + (wrap64 (Int.tmod a0 60)))) (ji14) (ji18) (ji22) (ji27) x17_1 y370 (ji18)) else (partitalaw10_TurnsJumps.j1 k1 true (wrap64 (1 + (wrap64 (Int.tmod a0 60)))) (ji14) (ji18) (ji22) (ji27) x17_1 y370 0))) else (none)) else (none)) = some r := by first | (rw [hji27] at H; exact H) | (simp only [hji27] at H ⊢; exact H)
                            (try rw [hji27] at A13)
                            by_cases c28 : 0 ≤ (ji27)
                            · rw [if_pos c28] at H
                              have c28b0 : decide (0 ≤ (ji27)) = true := decide_eq_true c28
                              clear c28
                              by_cases c29 : (ji27) < (t363.length : Int)
                              · rw [if_pos c29] at H
                                have c29b0 : decide ((ji27) < (t363.length : Int)) = true := decide_eq_true c29
                                clear c29
                                obtain ⟨y370, hy370⟩ : ∃ y_ : List (S38), y_ = (y369.set ((ji27) : Int).toNat (⟨(rd_T38 y369 (ji27)).f0, (rd_T38 y369 (ji27)).f1, (rd_T38 y369 (ji27)).f2, (rd_T38 y369 (ji27)).f3, true, (rd_T38 y369 (ji27)).f5, (rd_T38 y369 (ji27)).f6, (rd_T38 y369 (ji27)).f7⟩ : S38)) := ⟨_, rfl⟩
                                replace H : (if x17_1 ≥ 4 then (partitalaw10_TurnsJumps.j1 k1 true (wrap64 (1 + (wrap64 (Int.tmod a0 60)))) (ji14) (ji18) (ji22) (ji27) x17_1 y370 (ji18)) else (partitalaw10_TurnsJumps.j1 k1 true (wrap64 (1 + (wrap64 (Int.tmod a0 60)))) (ji14) (ji18) (ji22) (ji27) x17_1 y370 0)) = some r := by first | (rw [hy370]; with_reducible exact H) | (have H2_ := (Option.bind_some _ _).symm.trans H; rw [hy370]; with_reducible exact H2_) | (have H2_ := (Option.bind_some _ _).symm.trans H; with_reducible exact H2_) | with_reducible exact H | (rw [hy370]; exact H) | exact H
                                have Ny370 := Aside0.mk hy370
                                clear hy370
                                have HC31 := Aside0.mk H
                                clear H
                                go_upto_if 79 with (first | ((with_reducible refine gate_callee (f := 20) rfl ?_); refine goesL_ (some 56) rfl rfl Try.func20 (by kernel_rfl) rfl #[.int .i64 (wrap64 (1 + (wrap64 (Int.tmod a0 60))))] rfl (by (try simp only [List.map_toArray, List.map_cons, List.map_nil]); first | done | rfl | (simp only [List.length_drop, List.length_take]; rfl)) ?_; (with_reducible refine (partitalaw10_many.calls (wrap64 (1 + (wrap64 (Int.tmod a0 60)))) t363 _ A13.out).mono ?_); rintro e w32 ⟨v364, rfl, ho0, hb⟩; refine ⟨_, rfl, ?_⟩; have n0_ := Aside0.mk (Kd.S_lower ho0 (below_size (by repeat (first | (with_reducible first | exact HB.out | apply below_alloc | apply pw_below_drewN | apply below_drew1) | exact HB.out)))); have n1_ := Aside0.mk (below_step (by repeat (first | (with_reducible first | exact HB.out | apply below_alloc | apply pw_below_drewN | apply below_drew1) | exact HB.out)) hb); clear HB; have HO365 := n0_; have HB := n1_; clear n0_ n1_; (try clear hb); (try clear hb2); (try clear hk); (try clear hi); (try clear ho0); have p17 : 0 ≤ ((ji14) : Int) := of_decide_eq_true (by first | (with_reducible assumption) | assumption); have q17 : ((ji14) : Int) < ((t363.length : Int) : Int) := of_decide_eq_true (by first | (with_reducible assumption) | assumption); obtain ⟨go17, co17, eo17, gb17, gl17, cl17, HG17⟩ := Kd.S_form HO365.out (by omega); (first | cases eo17 | (injection eo17 with ea_ en_ ec_; (first | subst ea_ | (injection ea_ with ea_; subst ea_)); subst ec_; clear en_)); have GB17 := Aside0.mk gb17; have GG17 := Aside0.mk HG17; clear gb17 gl17 HG17; obtain ⟨_, ce17, hcl17, hM17, hcc17, hfr17, _, _⟩ := Kd.S_elem HO365.out z38 ((ji14) : Int) p17 q17; obtain ⟨ve17_2, rfl, ge17_2⟩ := k38_openM hM17; have hx17_0 : w32.cell? ⟨go17, ((ji14) : Int).toNat * 8, none⟩ = some (.bool ((rd_T38 t363 (ji14)).f0)) := hcc17 0 _ rfl; have hx17_1 : w32.cell? ⟨go17, ((ji14) : Int).toNat * 8 + 1, none⟩ = some (.int .i64 ((rd_T38 t363 (ji14)).f1)) := hcc17 1 _ rfl; have hx17_2 : w32.cell? ⟨go17, ((ji14) : Int).toNat * 8 + 2, none⟩ = some (ve17_2) := hcc17 2 _ rfl; have hx17_3 : w32.cell? ⟨go17, ((ji14) : Int).toNat * 8 + 3, none⟩ = some (.bool ((rd_T38 t363 (ji14)).f3)) := hcc17 3 _ rfl; have hx17_4 : w32.cell? ⟨go17, ((ji14) : Int).toNat * 8 + 4, none⟩ = some (.bool ((rd_T38 t363 (ji14)).f4)) := hcc17 4 _ rfl; have hx17_5 : w32.cell? ⟨go17, ((ji14) : Int).toNat * 8 + 5, none⟩ = some (.bool ((rd_T38 t363 (ji14)).f5)) := hcc17 5 _ rfl; have hx17_6 : w32.cell? ⟨go17, ((ji14) : Int).toNat * 8 + 6, none⟩ = some (.bool ((rd_T38 t363 (ji14)).f6)) := hcc17 6 _ rfl; have hx17_7 : w32.cell? ⟨go17, ((ji14) : Int).toNat * 8 + 7, none⟩ = some (.int .i64 ((rd_T38 t363 (ji14)).f7)) := hcc17 7 _ rfl; have hf17_0 : w32.frozen? ⟨go17, ((ji14) : Int).toNat * 8, none⟩ = false := hfr17 0; have hf17_1 : w32.frozen? ⟨go17, ((ji14) : Int).toNat * 8 + 1, none⟩ = false := hfr17 1; have hf17_2 : w32.frozen? ⟨go17, ((ji14) : Int).toNat * 8 + 2, none⟩ = false := hfr17 2; have hf17_3 : w32.frozen? ⟨go17, ((ji14) : Int).toNat * 8 + 3, none⟩ = false := hfr17 3; have hf17_4 : w32.frozen? ⟨go17, ((ji14) : Int).toNat * 8 + 4, none⟩ = false := hfr17 4; have hf17_5 : w32.frozen? ⟨go17, ((ji14) : Int).toNat * 8 + 5, none⟩ = false := hfr17 5; have hf17_6 : w32.frozen? ⟨go17, ((ji14) : Int).toNat * 8 + 6, none⟩ = false := hfr17 6; have hf17_7 : w32.frozen? ⟨go17, ((ji14) : Int).toNat * 8 + 7, none⟩ = false := hfr17 7; clear hcl17 hcc17 hfr17 hM17; replace p17 := eq_true p17; replace q17 := eq_true q17; have HX33 := Aside0.mk (show Kd.S k38 38 w32 w.heap.size (fun k_ => ((fun _ => True)) k_ ∧ ¬ ((fun _ => False)) k_) (.slice (some ⟨go17, 0, none⟩) t363.length co17) t363 from (by (with_reducible repeat (first | apply Kd.S_alloc | apply Kd.S_drewN | apply Kd.S_drew)); exact Kd.S_mono HO365.out (fun k_ hk => ⟨trivial, fun e_ => e_⟩))); obtain ⟨oki33, ce33, hcl33, hM33, hcc33, hfr33, hoki33, hH33⟩ := Kd.S_elem HX33.out z38 ((ji14) : Int) (of_decide_eq_true (by first | (with_reducible assumption) | assumption)) (by have h_ : ((ji14) : Int) < ((t363.length : Int) : Int) := of_decide_eq_true (by first | (with_reducible assumption) | assumption); first | exact h_ | (have e_ := (Kd.S_reads' HO365.out).1; omega) | simpa using h_); obtain ⟨ve33_2, rfl, ge33_2⟩ := k38_openM hM33; have HP33 := Kd.S_seg hH33 (of_decide_eq_true (by first | (with_reducible assumption) | assumption)) (by have h_ : ((ji14) : Int) < ((t363.length : Int) : Int) := of_decide_eq_true (by first | (with_reducible assumption) | assumption); first | exact h_ | (have e_ := (Kd.S_reads' HO365.out).1; omega) | simpa using h_) (seg := [.int .i64 x17_1]) (j := 7) (show 8 ≤ 8 from by decide) (x' := (⟨(rd_T38 t363 (ji14)).f0, (rd_T38 t363 (ji14)).f1, (rd_T38 t363 (ji14)).f2, (rd_T38 t363 (ji14)).f3, (rd_T38 t363 (ji14)).f4, (rd_T38 t363 (ji14)).f5, (rd_T38 t363 (ji14)).f6, x17_1⟩ : S38)) (k38_mkM _ _ _ (⟨(rd_T38 t363 (ji14)).f0, (rd_T38 t363 (ji14)).f1, (rd_T38 t363 (ji14)).f2, (rd_T38 t363 (ji14)).f3, (rd_T38 t363 (ji14)).f4, (rd_T38 t363 (ji14)).f5, (rd_T38 t363 (ji14)).f6, x17_1⟩ : S38) (Kd.R_mono ge33_2 (fun _ h_ => Or.inl h_))) (fun _ hk => hk) (fun k_ hk_ => hk_.elim); have hx33_7 := hcc33 7 _ rfl; (try simp only [show (k38).sz = 8 from rfl, Nat.mul_one, Nat.add_zero] at hx33_7); have hf33_7 := hfr33 7; (try simp only [show (k38).sz = 8 from rfl, Nat.mul_one, Nat.add_zero] at hf33_7); clear hcl33 hcc33 hfr33 hM33 hoki33 hH33) | ((with_reducible refine gate_store (t := 3) (p := 61) rfl ?_); refine store_event (t := 3) (p := 61) (v := ?vo_w34) (w1 := (w32.setCell ⟨go17, ((ji14) : Int).toNat * 8 + 7, none⟩ (.int .i64 x17_1))) ?hg ?ho ?hn ?hr ?_; (case ho => rfl); (case hg => rfl); (case hn => rfl); (case hr => first | (go_simp; done) | (go_simp; rfl)); intro w34 hw; have hg : w32.grownBy w34 (some go17) := (by rw [hw]; exact HP33.2); have hp_ : Kd.S k38 38 w34 w.heap.size (fun _ => True) (.slice (some ⟨go17, 0, none⟩) t363.length co17) y366 := (by rw [hw, Ny366.out]; exact HP33.1); clear HP33; have n0_ := Aside0.mk (hp_); have n1_ := Aside0.mk ((by rw [hw]; exact below_set (HB.out) GB17.out : Below w.heap.size w w34)); clear HO365; clear HB; have HO365 := n0_; have HB := n1_; clear n0_ n1_; clear hg hw hp_; have p21 : 0 ≤ ((ji18) : Int) := of_decide_eq_true (by first | (with_reducible assumption) | assumption); have q21 : ((ji18) : Int) < ((t363.length : Int) : Int) := of_decide_eq_true (by first | (with_reducible assumption) | assumption); obtain ⟨_, ce21, hcl21, hM21, hcc21, hfr21, _, _⟩ := Kd.S_elem HO365.out z38 ((ji18) : Int) p21 q21; obtain ⟨ve21_2, rfl, ge21_2⟩ := k38_openM hM21; have hx21_0 : w34.cell? ⟨go17, ((ji18) : Int).toNat * 8, none⟩ = some (.bool ((rd_T38 y366 (ji18)).f0)) := hcc21 0 _ rfl; have hx21_1 : w34.cell? ⟨go17, ((ji18) : Int).toNat * 8 + 1, none⟩ = some (.int .i64 ((rd_T38 y366 (ji18)).f1)) := hcc21 1 _ rfl; have hx21_2 : w34.cell? ⟨go17, ((ji18) : Int).toNat * 8 + 2, none⟩ = some (ve21_2) := hcc21 2 _ rfl; have hx21_3 : w34.cell? ⟨go17, ((ji18) : Int).toNat * 8 + 3, none⟩ = some (.bool ((rd_T38 y366 (ji18)).f3)) := hcc21 3 _ rfl; have hx21_4 : w34.cell? ⟨go17, ((ji18) : Int).toNat * 8 + 4, none⟩ = some (.bool ((rd_T38 y366 (ji18)).f4)) := hcc21 4 _ rfl; have hx21_5 : w34.cell? ⟨go17, ((ji18) : Int).toNat * 8 + 5, none⟩ = some (.bool ((rd_T38 y366 (ji18)).f5)) := hcc21 5 _ rfl; have hx21_6 : w34.cell? ⟨go17, ((ji18) : Int).toNat * 8 + 6, none⟩ = some (.bool ((rd_T38 y366 (ji18)).f6)) := hcc21 6 _ rfl; have hx21_7 : w34.cell? ⟨go17, ((ji18) : Int).toNat * 8 + 7, none⟩ = some (.int .i64 ((rd_T38 y366 (ji18)).f7)) := hcc21 7 _ rfl; have hf21_0 : w34.frozen? ⟨go17, ((ji18) : Int).toNat * 8, none⟩ = false := hfr21 0; have hf21_1 : w34.frozen? ⟨go17, ((ji18) : Int).toNat * 8 + 1, none⟩ = false := hfr21 1; have hf21_2 : w34.frozen? ⟨go17, ((ji18) : Int).toNat * 8 + 2, none⟩ = false := hfr21 2; have hf21_3 : w34.frozen? ⟨go17, ((ji18) : Int).toNat * 8 + 3, none⟩ = false := hfr21 3; have hf21_4 : w34.frozen? ⟨go17, ((ji18) : Int).toNat * 8 + 4, none⟩ = false := hfr21 4; have hf21_5 : w34.frozen? ⟨go17, ((ji18) : Int).toNat * 8 + 5, none⟩ = false := hfr21 5; have hf21_6 : w34.frozen? ⟨go17, ((ji18) : Int).toNat * 8 + 6, none⟩ = false := hfr21 6; have hf21_7 : w34.frozen? ⟨go17, ((ji18) : Int).toNat * 8 + 7, none⟩ = false := hfr21 7; clear hcl21 hcc21 hfr21 hM21; replace p21 := eq_true p21; replace q21 := eq_true q21; have HX35 := Aside0.mk (show Kd.S k38 38 w34 w.heap.size (fun k_ => ((fun _ => True)) k_ ∧ ¬ ((fun _ => False)) k_) (.slice (some ⟨go17, 0, none⟩) t363.length co17) y366 from (by (with_reducible repeat (first | apply Kd.S_alloc | apply Kd.S_drewN | apply Kd.S_drew)); exact Kd.S_mono HO365.out (fun k_ hk => ⟨trivial, fun e_ => e_⟩))); obtain ⟨oki35, ce35, hcl35, hM35, hcc35, hfr35, hoki35, hH35⟩ := Kd.S_elem HX35.out z38 ((ji18) : Int) (of_decide_eq_true (by first | (with_reducible assumption) | assumption)) (by have h_ : ((ji18) : Int) < ((t363.length : Int) : Int) := of_decide_eq_true (by first | (with_reducible assumption) | assumption); first | exact h_ | (have e_ := (Kd.S_reads' HO365.out).1; omega) | simpa using h_); obtain ⟨ve35_2, rfl, ge35_2⟩ := k38_openM hM35; have HP35 := Kd.S_seg hH35 (of_decide_eq_true (by first | (with_reducible assumption) | assumption)) (by have h_ : ((ji18) : Int) < ((t363.length : Int) : Int) := of_decide_eq_true (by first | (with_reducible assumption) | assumption); first | exact h_ | (have e_ := (Kd.S_reads' HO365.out).1; omega) | simpa using h_) (seg := [.bool true]) (j := 3) (show 4 ≤ 8 from by decide) (x' := (⟨(rd_T38 y366 (ji18)).f0, (rd_T38 y366 (ji18)).f1, (rd_T38 y366 (ji18)).f2, true, (rd_T38 y366 (ji18)).f4, (rd_T38 y366 (ji18)).f5, (rd_T38 y366 (ji18)).f6, (rd_T38 y366 (ji18)).f7⟩ : S38)) (k38_mkM _ _ _ (⟨(rd_T38 y366 (ji18)).f0, (rd_T38 y366 (ji18)).f1, (rd_T38 y366 (ji18)).f2, true, (rd_T38 y366 (ji18)).f4, (rd_T38 y366 (ji18)).f5, (rd_T38 y366 (ji18)).f6, (rd_T38 y366 (ji18)).f7⟩ : S38) (Kd.R_mono ge35_2 (fun _ h_ => Or.inl h_))) (fun _ hk => hk) (fun k_ hk_ => hk_.elim); have hx35_3 := hcc35 3 _ rfl; (try simp only [show (k38).sz = 8 from rfl, Nat.mul_one, Nat.add_zero] at hx35_3); have hf35_3 := hfr35 3; (try simp only [show (k38).sz = 8 from rfl, Nat.mul_one, Nat.add_zero] at hf35_3); clear hcl35 hcc35 hfr35 hM35 hoki35 hH35) | ((with_reducible refine gate_store (t := 4) (p := 65) rfl ?_); refine store_event (t := 4) (p := 65) (v := ?vo_w36) (w1 := (w34.setCell ⟨go17, ((ji18) : Int).toNat * 8 + 3, none⟩ (.bool true))) ?hg ?ho ?hn ?hr ?_; (case ho => rfl); (case hg => rfl); (case hn => rfl); (case hr => first | (go_simp; done) | (go_simp; rfl)); intro w36 hw; have hg : w34.grownBy w36 (some go17) := (by rw [hw]; exact HP35.2); have hp_ : Kd.S k38 38 w36 w.heap.size (fun _ => True) (.slice (some ⟨go17, 0, none⟩) t363.length co17) y367 := (by rw [hw, Ny367.out]; exact HP35.1); clear HP35; have n0_ := Aside0.mk (hp_); have n1_ := Aside0.mk ((by rw [hw]; exact below_set (HB.out) GB17.out : Below w.heap.size w w36)); clear HO365; clear HB; have HO365 := n0_; have HB := n1_; clear n0_ n1_; clear hg hw hp_; have p25 : 0 ≤ ((ji22) : Int) := of_decide_eq_true (by first | (with_reducible assumption) | assumption); have q25 : ((ji22) : Int) < ((t363.length : Int) : Int) := of_decide_eq_true (by first | (with_reducible assumption) | assumption); obtain ⟨_, ce25, hcl25, hM25, hcc25, hfr25, _, _⟩ := Kd.S_elem HO365.out z38 ((ji22) : Int) p25 q25; obtain ⟨ve25_2, rfl, ge25_2⟩ := k38_openM hM25; have hx25_0 : w36.cell? ⟨go17, ((ji22) : Int).toNat * 8, none⟩ = some (.bool ((rd_T38 y367 (ji22)).f0)) := hcc25 0 _ rfl; have hx25_1 : w36.cell? ⟨go17, ((ji22) : Int).toNat * 8 + 1, none⟩ = some (.int .i64 ((rd_T38 y367 (ji22)).f1)) := hcc25 1 _ rfl; have hx25_2 : w36.cell? ⟨go17, ((ji22) : Int).toNat * 8 + 2, none⟩ = some (ve25_2) := hcc25 2 _ rfl; have hx25_3 : w36.cell? ⟨go17, ((ji22) : Int).toNat * 8 + 3, none⟩ = some (.bool ((rd_T38 y367 (ji22)).f3)) := hcc25 3 _ rfl; have hx25_4 : w36.cell? ⟨go17, ((ji22) : Int).toNat * 8 + 4, none⟩ = some (.bool ((rd_T38 y367 (ji22)).f4)) := hcc25 4 _ rfl; have hx25_5 : w36.cell? ⟨go17, ((ji22) : Int).toNat * 8 + 5, none⟩ = some (.bool ((rd_T38 y367 (ji22)).f5)) := hcc25 5 _ rfl; have hx25_6 : w36.cell? ⟨go17, ((ji22) : Int).toNat * 8 + 6, none⟩ = some (.bool ((rd_T38 y367 (ji22)).f6)) := hcc25 6 _ rfl; have hx25_7 : w36.cell? ⟨go17, ((ji22) : Int).toNat * 8 + 7, none⟩ = some (.int .i64 ((rd_T38 y367 (ji22)).f7)) := hcc25 7 _ rfl; have hf25_0 : w36.frozen? ⟨go17, ((ji22) : Int).toNat * 8, none⟩ = false := hfr25 0; have hf25_1 : w36.frozen? ⟨go17, ((ji22) : Int).toNat * 8 + 1, none⟩ = false := hfr25 1; have hf25_2 : w36.frozen? ⟨go17, ((ji22) : Int).toNat * 8 + 2, none⟩ = false := hfr25 2; have hf25_3 : w36.frozen? ⟨go17, ((ji22) : Int).toNat * 8 + 3, none⟩ = false := hfr25 3; have hf25_4 : w36.frozen? ⟨go17, ((ji22) : Int).toNat * 8 + 4, none⟩ = false := hfr25 4; have hf25_5 : w36.frozen? ⟨go17, ((ji22) : Int).toNat * 8 + 5, none⟩ = false := hfr25 5; have hf25_6 : w36.frozen? ⟨go17, ((ji22) : Int).toNat * 8 + 6, none⟩ = false := hfr25 6; have hf25_7 : w36.frozen? ⟨go17, ((ji22) : Int).toNat * 8 + 7, none⟩ = false := hfr25 7; clear hcl25 hcc25 hfr25 hM25; replace p25 := eq_true p25; replace q25 := eq_true q25; have HX37 := Aside0.mk (show Kd.S k38 38 w36 w.heap.size (fun k_ => ((fun _ => True)) k_ ∧ ¬ ((fun _ => False)) k_) (.slice (some ⟨go17, 0, none⟩) t363.length co17) y367 from (by (with_reducible repeat (first | apply Kd.S_alloc | apply Kd.S_drewN | apply Kd.S_drew)); exact Kd.S_mono HO365.out (fun k_ hk => ⟨trivial, fun e_ => e_⟩))); obtain ⟨oki37, ce37, hcl37, hM37, hcc37, hfr37, hoki37, hH37⟩ := Kd.S_elem HX37.out z38 ((ji22) : Int) (of_decide_eq_true (by first | (with_reducible assumption) | assumption)) (by have h_ : ((ji22) : Int) < ((t363.length : Int) : Int) := of_decide_eq_true (by first | (with_reducible assumption) | assumption); first | exact h_ | (have e_ := (Kd.S_reads' HO365.out).1; omega) | simpa using h_); obtain ⟨ve37_2, rfl, ge37_2⟩ := k38_openM hM37; have HP37 := Kd.S_seg hH37 (of_decide_eq_true (by first | (with_reducible assumption) | assumption)) (by have h_ : ((ji22) : Int) < ((t363.length : Int) : Int) := of_decide_eq_true (by first | (with_reducible assumption) | assumption); first | exact h_ | (have e_ := (Kd.S_reads' HO365.out).1; omega) | simpa using h_) (seg := [.bool true]) (j := 6) (show 7 ≤ 8 from by decide) (x' := (⟨(rd_T38 y367 (ji22)).f0, (rd_T38 y367 (ji22)).f1, (rd_T38 y367 (ji22)).f2, (rd_T38 y367 (ji22)).f3, (rd_T38 y367 (ji22)).f4, (rd_T38 y367 (ji22)).f5, true, (rd_T38 y367 (ji22)).f7⟩ : S38)) (k38_mkM _ _ _ (⟨(rd_T38 y367 (ji22)).f0, (rd_T38 y367 (ji22)).f1, (rd_T38 y367 (ji22)).f2, (rd_T38 y367 (ji22)).f3, (rd_T38 y367 (ji22)).f4, (rd_T38 y367 (ji22)).f5, true, (rd_T38 y367 (ji22)).f7⟩ : S38) (Kd.R_mono ge37_2 (fun _ h_ => Or.inl h_))) (fun _ hk => hk) (fun k_ hk_ => hk_.elim); have hx37_6 := hcc37 6 _ rfl; (try simp only [show (k38).sz = 8 from rfl, Nat.mul_one, Nat.add_zero] at hx37_6); have hf37_6 := hfr37 6; (try simp only [show (k38).sz = 8 from rfl, Nat.mul_one, Nat.add_zero] at hf37_6); clear hcl37 hcc37 hfr37 hM37 hoki37 hH37) | ((with_reducible refine gate_store (t := 4) (p := 69) rfl ?_); refine store_event (t := 4) (p := 69) (v := ?vo_w38) (w1 := (w36.setCell ⟨go17, ((ji22) : Int).toNat * 8 + 6, none⟩ (.bool true))) ?hg ?ho ?hn ?hr ?_; (case ho => rfl); (case hg => rfl); (case hn => rfl); (case hr => first | (go_simp; done) | (go_simp; rfl)); intro w38 hw; have hg : w36.grownBy w38 (some go17) := (by rw [hw]; exact HP37.2); have hp_ : Kd.S k38 38 w38 w.heap.size (fun _ => True) (.slice (some ⟨go17, 0, none⟩) t363.length co17) y368 := (by rw [hw, Ny368.out]; exact HP37.1); clear HP37; have n0_ := Aside0.mk (hp_); have n1_ := Aside0.mk ((by rw [hw]; exact below_set (HB.out) GB17.out : Below w.heap.size w w38)); clear HO365; clear HB; have HO365 := n0_; have HB := n1_; clear n0_ n1_; clear hg hw hp_; have p26 : 0 ≤ ((ji22) : Int) := of_decide_eq_true (by first | (with_reducible assumption) | assumption); have q26 : ((ji22) : Int) < ((t363.length : Int) : Int) := of_decide_eq_true (by first | (with_reducible assumption) | assumption); obtain ⟨_, ce26, hcl26, hM26, hcc26, hfr26, _, _⟩ := Kd.S_elem HO365.out z38 ((ji22) : Int) p26 q26; obtain ⟨ve26_2, rfl, ge26_2⟩ := k38_openM hM26; have hx26_0 : w38.cell? ⟨go17, ((ji22) : Int).toNat * 8, none⟩ = some (.bool ((rd_T38 y368 (ji22)).f0)) := hcc26 0 _ rfl; have hx26_1 : w38.cell? ⟨go17, ((ji22) : Int).toNat * 8 + 1, none⟩ = some (.int .i64 ((rd_T38 y368 (ji22)).f1)) := hcc26 1 _ rfl; have hx26_2 : w38.cell? ⟨go17, ((ji22) : Int).toNat * 8 + 2, none⟩ = some (ve26_2) := hcc26 2 _ rfl; have hx26_3 : w38.cell? ⟨go17, ((ji22) : Int).toNat * 8 + 3, none⟩ = some (.bool ((rd_T38 y368 (ji22)).f3)) := hcc26 3 _ rfl; have hx26_4 : w38.cell? ⟨go17, ((ji22) : Int).toNat * 8 + 4, none⟩ = some (.bool ((rd_T38 y368 (ji22)).f4)) := hcc26 4 _ rfl; have hx26_5 : w38.cell? ⟨go17, ((ji22) : Int).toNat * 8 + 5, none⟩ = some (.bool ((rd_T38 y368 (ji22)).f5)) := hcc26 5 _ rfl; have hx26_6 : w38.cell? ⟨go17, ((ji22) : Int).toNat * 8 + 6, none⟩ = some (.bool ((rd_T38 y368 (ji22)).f6)) := hcc26 6 _ rfl; have hx26_7 : w38.cell? ⟨go17, ((ji22) : Int).toNat * 8 + 7, none⟩ = some (.int .i64 ((rd_T38 y368 (ji22)).f7)) := hcc26 7 _ rfl; have hf26_0 : w38.frozen? ⟨go17, ((ji22) : Int).toNat * 8, none⟩ = false := hfr26 0; have hf26_1 : w38.frozen? ⟨go17, ((ji22) : Int).toNat * 8 + 1, none⟩ = false := hfr26 1; have hf26_2 : w38.frozen? ⟨go17, ((ji22) : Int).toNat * 8 + 2, none⟩ = false := hfr26 2; have hf26_3 : w38.frozen? ⟨go17, ((ji22) : Int).toNat * 8 + 3, none⟩ = false := hfr26 3; have hf26_4 : w38.frozen? ⟨go17, ((ji22) : Int).toNat * 8 + 4, none⟩ = false := hfr26 4; have hf26_5 : w38.frozen? ⟨go17, ((ji22) : Int).toNat * 8 + 5, none⟩ = false := hfr26 5; have hf26_6 : w38.frozen? ⟨go17, ((ji22) : Int).toNat * 8 + 6, none⟩ = false := hfr26 6; have hf26_7 : w38.frozen? ⟨go17, ((ji22) : Int).toNat * 8 + 7, none⟩ = false := hfr26 7; clear hcl26 hcc26 hfr26 hM26; replace p26 := eq_true p26; replace q26 := eq_true q26; have HX39 := Aside0.mk (show Kd.S k38 38 w38 w.heap.size (fun k_ => ((fun _ => True)) k_ ∧ ¬ ((fun _ => False)) k_) (.slice (some ⟨go17, 0, none⟩) t363.length co17) y368 from (by (with_reducible repeat (first | apply Kd.S_alloc | apply Kd.S_drewN | apply Kd.S_drew)); exact Kd.S_mono HO365.out (fun k_ hk => ⟨trivial, fun e_ => e_⟩))); obtain ⟨oki39, ce39, hcl39, hM39, hcc39, hfr39, hoki39, hH39⟩ := Kd.S_elem HX39.out z38 ((ji22) : Int) (of_decide_eq_true (by first | (with_reducible assumption) | assumption)) (by have h_ : ((ji22) : Int) < ((t363.length : Int) : Int) := of_decide_eq_true (by first | (with_reducible assumption) | assumption); first | exact h_ | (have e_ := (Kd.S_reads' HO365.out).1; omega) | simpa using h_); obtain ⟨ve39_2, rfl, ge39_2⟩ := k38_openM hM39; have HP39 := Kd.S_seg hH39 (of_decide_eq_true (by first | (with_reducible assumption) | assumption)) (by have h_ : ((ji22) : Int) < ((t363.length : Int) : Int) := of_decide_eq_true (by first | (with_reducible assumption) | assumption); first | exact h_ | (have e_ := (Kd.S_reads' HO365.out).1; omega) | simpa using h_) (seg := [.bool true]) (j := 5) (show 6 ≤ 8 from by decide) (x' := (⟨(rd_T38 y368 (ji22)).f0, (rd_T38 y368 (ji22)).f1, (rd_T38 y368 (ji22)).f2, (rd_T38 y368 (ji22)).f3, (rd_T38 y368 (ji22)).f4, true, (rd_T38 y368 (ji22)).f6, (rd_T38 y368 (ji22)).f7⟩ : S38)) (k38_mkM _ _ _ (⟨(rd_T38 y368 (ji22)).f0, (rd_T38 y368 (ji22)).f1, (rd_T38 y368 (ji22)).f2, (rd_T38 y368 (ji22)).f3, (rd_T38 y368 (ji22)).f4, true, (rd_T38 y368 (ji22)).f6, (rd_T38 y368 (ji22)).f7⟩ : S38) (Kd.R_mono ge39_2 (fun _ h_ => Or.inl h_))) (fun _ hk => hk) (fun k_ hk_ => hk_.elim); have hx39_5 := hcc39 5 _ rfl; (try simp only [show (k38).sz = 8 from rfl, Nat.mul_one, Nat.add_zero] at hx39_5); have hf39_5 := hfr39 5; (try simp only [show (k38).sz = 8 from rfl, Nat.mul_one, Nat.add_zero] at hf39_5); clear hcl39 hcc39 hfr39 hM39 hoki39 hH39) | ((with_reducible refine gate_store (t := 4) (p := 73) rfl ?_); refine store_event (t := 4) (p := 73) (v := ?vo_w40) (w1 := (w38.setCell ⟨go17, ((ji22) : Int).toNat * 8 + 5, none⟩ (.bool true))) ?hg ?ho ?hn ?hr ?_; (case ho => rfl); (case hg => rfl); (case hn => rfl); (case hr => first | (go_simp; done) | (go_simp; rfl)); intro w40 hw; have hg : w38.grownBy w40 (some go17) := (by rw [hw]; exact HP39.2); have hp_ : Kd.S k38 38 w40 w.heap.size (fun _ => True) (.slice (some ⟨go17, 0, none⟩) t363.length co17) y369 := (by rw [hw, Ny369.out]; exact HP39.1); clear HP39; have n0_ := Aside0.mk (hp_); have n1_ := Aside0.mk ((by rw [hw]; exact below_set (HB.out) GB17.out : Below w.heap.size w w40)); clear HO365; clear HB; have HO365 := n0_; have HB := n1_; clear n0_ n1_; clear hg hw hp_; have p30 : 0 ≤ ((ji27) : Int) := of_decide_eq_true (by first | (with_reducible assumption) | assumption); have q30 : ((ji27) : Int) < ((t363.length : Int) : Int) := of_decide_eq_true (by first | (with_reducible assumption) | assumption); obtain ⟨_, ce30, hcl30, hM30, hcc30, hfr30, _, _⟩ := Kd.S_elem HO365.out z38 ((ji27) : Int) p30 q30; obtain ⟨ve30_2, rfl, ge30_2⟩ := k38_openM hM30; have hx30_0 : w40.cell? ⟨go17, ((ji27) : Int).toNat * 8, none⟩ = some (.bool ((rd_T38 y369 (ji27)).f0)) := hcc30 0 _ rfl; have hx30_1 : w40.cell? ⟨go17, ((ji27) : Int).toNat * 8 + 1, none⟩ = some (.int .i64 ((rd_T38 y369 (ji27)).f1)) := hcc30 1 _ rfl; have hx30_2 : w40.cell? ⟨go17, ((ji27) : Int).toNat * 8 + 2, none⟩ = some (ve30_2) := hcc30 2 _ rfl; have hx30_3 : w40.cell? ⟨go17, ((ji27) : Int).toNat * 8 + 3, none⟩ = some (.bool ((rd_T38 y369 (ji27)).f3)) := hcc30 3 _ rfl; have hx30_4 : w40.cell? ⟨go17, ((ji27) : Int).toNat * 8 + 4, none⟩ = some (.bool ((rd_T38 y369 (ji27)).f4)) := hcc30 4 _ rfl; have hx30_5 : w40.cell? ⟨go17, ((ji27) : Int).toNat * 8 + 5, none⟩ = some (.bool ((rd_T38 y369 (ji27)).f5)) := hcc30 5 _ rfl; have hx30_6 : w40.cell? ⟨go17, ((ji27) : Int).toNat * 8 + 6, none⟩ = some (.bool ((rd_T38 y369 (ji27)).f6)) := hcc30 6 _ rfl; have hx30_7 : w40.cell? ⟨go17, ((ji27) : Int).toNat * 8 + 7, none⟩ = some (.int .i64 ((rd_T38 y369 (ji27)).f7)) := hcc30 7 _ rfl; have hf30_0 : w40.frozen? ⟨go17, ((ji27) : Int).toNat * 8, none⟩ = false := hfr30 0; have hf30_1 : w40.frozen? ⟨go17, ((ji27) : Int).toNat * 8 + 1, none⟩ = false := hfr30 1; have hf30_2 : w40.frozen? ⟨go17, ((ji27) : Int).toNat * 8 + 2, none⟩ = false := hfr30 2; have hf30_3 : w40.frozen? ⟨go17, ((ji27) : Int).toNat * 8 + 3, none⟩ = false := hfr30 3; have hf30_4 : w40.frozen? ⟨go17, ((ji27) : Int).toNat * 8 + 4, none⟩ = false := hfr30 4; have hf30_5 : w40.frozen? ⟨go17, ((ji27) : Int).toNat * 8 + 5, none⟩ = false := hfr30 5; have hf30_6 : w40.frozen? ⟨go17, ((ji27) : Int).toNat * 8 + 6, none⟩ = false := hfr30 6; have hf30_7 : w40.frozen? ⟨go17, ((ji27) : Int).toNat * 8 + 7, none⟩ = false := hfr30 7; clear hcl30 hcc30 hfr30 hM30; replace p30 := eq_true p30; replace q30 := eq_true q30; have HX41 := Aside0.mk (show Kd.S k38 38 w40 w.heap.size (fun k_ => ((fun _ => True)) k_ ∧ ¬ ((fun _ => False)) k_) (.slice (some ⟨go17, 0, none⟩) t363.length co17) y369 from (by (with_reducible repeat (first | apply Kd.S_alloc | apply Kd.S_drewN | apply Kd.S_drew)); exact Kd.S_mono HO365.out (fun k_ hk => ⟨trivial, fun e_ => e_⟩))); obtain ⟨oki41, ce41, hcl41, hM41, hcc41, hfr41, hoki41, hH41⟩ := Kd.S_elem HX41.out z38 ((ji27) : Int) (of_decide_eq_true (by first | (with_reducible assumption) | assumption)) (by have h_ : ((ji27) : Int) < ((t363.length : Int) : Int) := of_decide_eq_true (by first | (with_reducible assumption) | assumption); first | exact h_ | (have e_ := (Kd.S_reads' HO365.out).1; omega) | simpa using h_); obtain ⟨ve41_2, rfl, ge41_2⟩ := k38_openM hM41; have HP41 := Kd.S_seg hH41 (of_decide_eq_true (by first | (with_reducible assumption) | assumption)) (by have h_ : ((ji27) : Int) < ((t363.length : Int) : Int) := of_decide_eq_true (by first | (with_reducible assumption) | assumption); first | exact h_ | (have e_ := (Kd.S_reads' HO365.out).1; omega) | simpa using h_) (seg := [.bool true]) (j := 4) (show 5 ≤ 8 from by decide) (x' := (⟨(rd_T38 y369 (ji27)).f0, (rd_T38 y369 (ji27)).f1, (rd_T38 y369 (ji27)).f2, (rd_T38 y369 (ji27)).f3, true, (rd_T38 y369 (ji27)).f5, (rd_T38 y369 (ji27)).f6, (rd_T38 y369 (ji27)).f7⟩ : S38)) (k38_mkM _ _ _ (⟨(rd_T38 y369 (ji27)).f0, (rd_T38 y369 (ji27)).f1, (rd_T38 y369 (ji27)).f2, (rd_T38 y369 (ji27)).f3, true, (rd_T38 y369 (ji27)).f5, (rd_T38 y369 (ji27)).f6, (rd_T38 y369 (ji27)).f7⟩ : S38) (Kd.R_mono ge41_2 (fun _ h_ => Or.inl h_))) (fun _ hk => hk) (fun k_ hk_ => hk_.elim); have hx41_4 := hcc41 4 _ rfl; (try simp only [show (k38).sz = 8 from rfl, Nat.mul_one, Nat.add_zero] at hx41_4); have hf41_4 := hfr41 4; (try simp only [show (k38).sz = 8 from rfl, Nat.mul_one, Nat.add_zero] at hf41_4); clear hcl41 hcc41 hfr41 hM41 hoki41 hH41) | ((with_reducible refine gate_store (t := 4) (p := 77) rfl ?_); refine store_event (t := 4) (p := 77) (v := ?vo_w42) (w1 := (w40.setCell ⟨go17, ((ji27) : Int).toNat * 8 + 4, none⟩ (.bool true))) ?hg ?ho ?hn ?hr ?_; (case ho => rfl); (case hg => rfl); (case hn => rfl); (case hr => first | (go_simp; done) | (go_simp; rfl)); intro w42 hw; have hg : w40.grownBy w42 (some go17) := (by rw [hw]; exact HP41.2); have hp_ : Kd.S k38 38 w42 w.heap.size (fun _ => True) (.slice (some ⟨go17, 0, none⟩) t363.length co17) y370 := (by rw [hw, Ny370.out]; exact HP41.1); clear HP41; have n0_ := Aside0.mk (hp_); have n1_ := Aside0.mk ((by rw [hw]; exact below_set (HB.out) GB17.out : Below w.heap.size w w42)); clear HO365; clear HB; have HO365 := n0_; have HB := n1_; clear n0_ n1_; clear hg hw hp_))
                                (try simp only [Act.put, List.setIfInBounds_toArray, List.set_cons_zero, List.set_cons_succ])
                                go_cut [19] (fun v19 wc => ∃ (kq : Nat) (x19_30 : Int), v19 = .int .i64 x19_30 ∧ Aside0 (partitalaw10_TurnsJumps.j1 kq true (wrap64 (1 + (wrap64 (Int.tmod a0 60)))) (ji14) (ji18) (ji22) (ji27) x17_1 y370 x19_30 = some r) ∧ Aside0 (kq ≤ k1) ∧ Aside0 (Kd.S k38 38 wc w.heap.size (fun _ => True) (.slice (some ⟨go17, 0, none⟩) t363.length co17) y370) ∧ Aside0 (Below w.heap.size w wc))
                                case first =>
                                  have H := HC31.out
                                  clear HC31
                                  by_cases c43 : x17_1 ≥ 4
                                  · rw [if_pos c43] at H
                                    have c43b0 : decide (4 ≤ x17_1) = true := decide_eq_true c43
                                    clear c43
                                    (first | rw [c43b0] | (simp only [i64_w, i32_w]; rw [c43b0]) | skip)
                                    have H' := Aside0.mk H
                                    clear H
                                    go_wp2
                                    go_meet
                                    case rel => exact ⟨_, ((ji18)), (by first | rfl | (simp; done) | (simp only [← hji18] <;> (first | rfl | simp)) | (simp [*]; done)), H', ⟨by have := HK1.out; first | omega | exact Nat.le_refl _⟩, ⟨by (with_reducible repeat (first | apply Kd.S_alloc | apply Kd.S_drewN | apply Kd.S_drew)); exact HO365.out⟩, ⟨by repeat (first | (with_reducible first | exact HB.out | apply below_alloc | apply pw_below_drewN | apply below_drew1) | exact HB.out)⟩⟩
                                  · rw [if_neg c43] at H
                                    have c43b0 : decide (4 ≤ x17_1) = false := decide_eq_false c43
                                    clear c43
                                    (first | rw [c43b0] | (simp only [i64_w, i32_w]; rw [c43b0]) | skip)
                                    have H' := Aside0.mk H
                                    clear H
                                    go_wp2
                                    go_meet
                                    case rel => exact ⟨_, (0), (by first | rfl | (simp; done) | (simp [*]; done)), H', ⟨by have := HK1.out; first | omega | exact Nat.le_refl _⟩, ⟨by (with_reducible repeat (first | apply Kd.S_alloc | apply Kd.S_drewN | apply Kd.S_drew)); exact HO365.out⟩, ⟨by repeat (first | (with_reducible first | exact HB.out | apply below_alloc | apply pw_below_drewN | apply below_drew1) | exact HB.out)⟩⟩
                                case rest =>
                                  clear HC31
                                  try clear c1
                                  try clear p1
                                  try clear q1
                                  try clear hx1
                                  try clear c2
                                  try clear p2
                                  try clear q2
                                  try clear hx2
                                  try clear c3
                                  try clear p3
                                  try clear q3
                                  try clear hx3
                                  try clear c4
                                  try clear hx4
                                  try clear p6
                                  try clear c7
                                  try clear c8
                                  try clear c8b0
                                  try clear c8b1
                                  try clear c9
                                  try clear c9b0
                                  try clear c9b1
                                  try clear c10
                                  try clear c10b0
                                  try clear c10b1
                                  try clear c11
                                  try clear c12
                                  try clear c12b0
                                  try clear c15
                                  try clear c15b0
                                  try clear c16
                                  try clear c16b0
                                  try clear c17
                                  try clear p17
                                  try clear q17
                                  try clear hx17
                                  try clear hf17
                                  try clear c19
                                  try clear c19b0
                                  try clear c20
                                  try clear c20b0
                                  try clear c21
                                  try clear p21
                                  try clear q21
                                  try clear hx21
                                  try clear hf21
                                  try clear c23
                                  try clear c23b0
                                  try clear c24
                                  try clear c24b0
                                  try clear c25
                                  try clear p25
                                  try clear q25
                                  try clear hx25
                                  try clear hf25
                                  try clear c26
                                  try clear p26
                                  try clear q26
                                  try clear hx26
                                  try clear hf26
                                  try clear c28
                                  try clear c28b0
                                  try clear c29
                                  try clear c29b0
                                  try clear c30
                                  try clear p30
                                  try clear q30
                                  try clear hx30
                                  try clear hf30
                                  try clear c33
                                  try clear hx33
                                  try clear hf33
                                  try clear c35
                                  try clear hx35
                                  try clear hf35
                                  try clear c37
                                  try clear hx37
                                  try clear hf37
                                  try clear c39
                                  try clear hx39
                                  try clear hf39
                                  try clear c41
                                  try clear hx41
                                  try clear hf41
                                  try clear c43
                                  try clear c43b0
                                  try clear hx17_0
                                  try clear hx17_1
                                  try clear hx17_2
                                  try clear hx17_3
                                  try clear hx17_4
                                  try clear hx17_5
                                  try clear hx17_6
                                  try clear hx17_7
                                  try clear hx21_0
                                  try clear hx21_1
                                  try clear hx21_2
                                  try clear hx21_3
                                  try clear hx21_4
                                  try clear hx21_5
                                  try clear hx21_6
                                  try clear hx21_7
                                  try clear hx25_0
                                  try clear hx25_1
                                  try clear hx25_2
                                  try clear hx25_3
                                  try clear hx25_4
                                  try clear hx25_5
                                  try clear hx25_6
                                  try clear hx25_7
                                  try clear hx26_0
                                  try clear hx26_1
                                  try clear hx26_2
                                  try clear hx26_3
                                  try clear hx26_4
                                  try clear hx26_5
                                  try clear hx26_6
                                  try clear hx26_7
                                  try clear hx30_0
                                  try clear hx30_1
                                  try clear hx30_2
                                  try clear hx30_3
                                  try clear hx30_4
                                  try clear hx30_5
                                  try clear hx30_6
                                  try clear hx30_7
                                  try clear hx33_7
                                  try clear hx35_3
                                  try clear hx37_6
                                  try clear hx39_5
                                  try clear hx41_4
                                  try clear p17
                                  try clear p2
                                  try clear p21
                                  try clear p25
                                  try clear p26
                                  try clear p30
                                  try clear p6
                                  try clear q17
                                  try clear q21
                                  try clear q25
                                  try clear q26
                                  try clear q30
                                  obtain ⟨kq, x19_30, rfl, HA, HJ30, HO_18, HB⟩ := hcut
                                  have hl18_30 := (Kd.S_reads' HO_18.out).1
                                  rw [hl18_30] at HO_18
                                  (try simp only [hl18_30])
                                  cases kq with
                                  | zero => exact absurd HA.out (by simp [partitalaw10_TurnsJumps.j1])
                                  | succ kj30 =>
                                    have H := HA.out
                                    clear HA
                                    simp only [partitalaw10_TurnsJumps.j1] at H
                                    replace H := Option.bind_eq_some_iff.mp H
                                    obtain ⟨t371, A440, H⟩ := H
                                    replace H : ((partitalaw10_rising.f kj30 x19_30 (wrap64 (1 + (wrap64 (Int.tmod a0 60))))).bind fun t374 => (if t371.length + t374.length < 17592186044416 then ((some (t371 ++ t374 : List Int)).bind fun y377 => (if x17_1 = 2 then (partitalaw10_TurnsJumps.j2 kj30 true (wrap64 (1 + (wrap64 (Int.tmod a0 60)))) (ji14) (ji18) (ji22) (ji27) x17_1 y370 x19_30 y377 true) else (partitalaw10_TurnsJumps.j2 kj30 true (wrap64 (1 + (wrap64 (Int.tmod a0 60)))) (ji14) (ji18) (ji22) (ji27) x17_1 y370 x19_30 y377 (x17_1 == 5)))) else (none))) = some r := H
                                    have A44 := Aside0.mk A440
                                    clear A440
                                    replace H := Option.bind_eq_some_iff.mp H
                                    obtain ⟨t374, A450, H⟩ := H
                                    replace H : (if t371.length + t374.length < 17592186044416 then ((some (t371 ++ t374 : List Int)).bind fun y377 => (if x17_1 = 2 then (partitalaw10_TurnsJumps.j2 kj30 true (wrap64 (1 + (wrap64 (Int.tmod a0 60)))) (ji14) (ji18) (ji22) (ji27) x17_1 y370 x19_30 y377 true) else (partitalaw10_TurnsJumps.j2 kj30 true (wrap64 (1 + (wrap64 (Int.tmod a0 60)))) (ji14) (ji18) (ji22) (ji27) x17_1 y370 x19_30 y377 (x17_1 == 5)))) else (none)) = some r := H
                                    have A45 := Aside0.mk A450
                                    clear A450
                                    by_cases c46 : t371.length + t374.length < 17592186044416
                                    · rw [if_pos c46] at H
                                      have LMc46 := Aside0.mk c46
                                      clear c46
                                      obtain ⟨y377, hy377⟩ : ∃ y_ : List Int, y_ = (t371 ++ t374) := ⟨_, rfl⟩
                                      replace H : (if x17_1 = 2 then (partitalaw10_TurnsJumps.j2 kj30 true (wrap64 (1 + (wrap64 (Int.tmod a0 60)))) (ji14) (ji18) (ji22) (ji27) x17_1 y370 x19_30 y377 true) else (partitalaw10_TurnsJumps.j2 kj30 true (wrap64 (1 + (wrap64 (Int.tmod a0 60)))) (ji14) (ji18) (ji22) (ji27) x17_1 y370 x19_30 y377 (x17_1 == 5))) = some r := by first | (rw [hy377]; with_reducible exact H) | (have H2_ := (Option.bind_some _ _).symm.trans H; rw [hy377]; with_reducible exact H2_) | (have H2_ := (Option.bind_some _ _).symm.trans H; with_reducible exact H2_) | with_reducible exact H | (rw [hy377]; exact H) | exact H
                                      have Ny377 := Aside0.mk hy377
                                      clear hy377
                                      have HC47 := Aside0.mk H
                                      clear H
                                      go_upto_region 22 with (first | ((with_reducible refine gate_callee (f := 21) rfl ?_); refine goesL_ (some 83) rfl rfl Try.func21 (by kernel_rfl) rfl #[.int .i64 0, .int .i64 (wrap64 ((ji14) + 1))] rfl (by (try simp only [List.map_toArray, List.map_cons, List.map_nil]); first | done | (simp only [hji14]; rfl) | rfl | (simp only [List.length_drop, List.length_take]; rfl)) ?_; (with_reducible refine (partitalaw10_rising.calls kj30 0 (wrap64 ((ji14) + 1)) t371 _ A44.out).mono ?_); rintro e w48 ⟨v372, rfl, ho0, hb⟩; refine ⟨_, rfl, ?_⟩; have n0_ := Aside0.mk (Kd.S_elder' (by (with_reducible repeat (first | apply Kd.S_alloc | apply Kd.S_drewN | apply Kd.S_drew)); exact HO_18.out) (Kd.R_base ho0) hb); have n1_ := Aside0.mk (Kd.R_lower ho0 (below_size (by repeat (first | (with_reducible first | exact HB.out | apply below_alloc | apply pw_below_drewN | apply below_drew1) | exact HB.out)))); have n2_ := Aside0.mk (below_step (by repeat (first | (with_reducible first | exact HB.out | apply below_alloc | apply pw_below_drewN | apply below_drew1) | exact HB.out)) hb); clear HO_18; clear HB; have HO_18 := n0_; have HO373 := n1_; have HB := n2_; clear n0_ n1_ n2_; (try clear hb); (try clear hb2); (try clear hk); (try clear hi); (try clear ho0)) | ((with_reducible refine gate_callee (f := 21) rfl ?_); refine goesL_ (some 86) rfl rfl Try.func21 (by kernel_rfl) rfl #[.int .i64 x19_30, .int .i64 (wrap64 (1 + (wrap64 (Int.tmod a0 60))))] rfl (by (try simp only [List.map_toArray, List.map_cons, List.map_nil]); first | done | rfl | (simp only [List.length_drop, List.length_take]; rfl)) ?_; (with_reducible refine (partitalaw10_rising.calls kj30 x19_30 (wrap64 (1 + (wrap64 (Int.tmod a0 60)))) t374 _ A45.out).mono ?_); rintro e w49 ⟨v375, rfl, ho0, hb⟩; refine ⟨_, rfl, ?_⟩; have n0_ := Aside0.mk (Kd.S_elder' (by (with_reducible repeat (first | apply Kd.S_alloc | apply Kd.S_drewN | apply Kd.S_drew)); exact HO_18.out) (Kd.R_base ho0) hb); have n1_ := Aside0.mk (Kd.R_elder' (by (with_reducible repeat (first | apply Kd.R_alloc | apply Kd.R_drewN | apply Kd.R_drew)); exact HO373.out) (Kd.R_base ho0) hb); have n2_ := Aside0.mk (Kd.R_lower (Kd.R_new' ho0 (Kd.R_lt (by (with_reducible repeat (first | apply Kd.R_alloc | apply Kd.R_drewN | apply Kd.R_drew)); exact HO373.out))) (below_size (by repeat (first | (with_reducible first | exact HB.out | apply below_alloc | apply pw_below_drewN | apply below_drew1) | exact HB.out)))); have n3_ := Aside0.mk (below_step (by repeat (first | (with_reducible first | exact HB.out | apply below_alloc | apply pw_below_drewN | apply below_drew1) | exact HB.out)) hb); clear HO_18; clear HO373; clear HB; have HO_18 := n0_; have HO373 := n1_; have HO376 := n2_; have HB := n3_; clear n0_ n1_ n2_ n3_; (try clear hb); (try clear hb2); (try clear hk); (try clear hi); (try clear ho0); obtain ⟨Ao51, co51, eo51⟩ := Kd.R_slice HO376.out; subst eo51) | ((with_reducible refine gate_builtin (b := .append) (xs := #[.tmp 83, .tmp 86]) rfl ?_); at_builtin; refine Kd.R_append_rows (Kd.int .i64) (w0 := w) w.heap.size rfl (.tmp 83) (.tmp 86) 31 3 (.int .i64 0) 8 rfl Try.underlying31 info3 rfl (by decide) (by omega) v372 t371 t374 _ _ _ (fun k_ => some k_ ≠ (.slice Ao51 t374.length co51 : Value).ownBlock) (fun _ => False) rfl rfl ?aO ?aR (fun _ _ h => h) (fun _ h => h.elim) ?aF ?aB ?aS ?aL ?_; (case aR => repeat (first | exact (Kd.R_reads' HO376.out).2.2 | (with_reducible refine Kd.C_alloc ?_ _) | (with_reducible refine Kd.C_drewN ?_ _) | (with_reducible refine Kd.C_drew ?_))); (case aB => exact (by repeat (first | (with_reducible first | exact HB.out | apply below_alloc | apply pw_below_drewN | apply below_drew1) | exact HB.out))); (case aF => exact (fun k_ hk => Kd.fresh' (Kd.R_lt (by (with_reducible repeat (first | apply Kd.R_alloc | apply Kd.R_drewN | apply Kd.R_drew)); exact HO376.out)) k_ hk)); (case aO => exact (by (with_reducible repeat (first | apply Kd.R_alloc | apply Kd.R_drewN | apply Kd.R_drew)); exact Kd.R_mono HO373.out (fun _ hk => hk.2))); (case aS => exact (below_size (by repeat (first | (with_reducible first | exact HB.out | apply below_alloc | apply pw_below_drewN | apply below_drew1) | exact HB.out)))); (case aL => have := LMc46.out; omega); intro v378 w50 ho hb hg hat; rw [← Ny377.out] at ho; have n0_ := Aside0.mk (Kd.S_after (ok := (fun k_ => some k_ ≠ (.slice Ao51 t374.length co51 : Value).ownBlock)) (by (with_reducible repeat (first | apply Kd.S_alloc | apply Kd.S_drewN | apply Kd.S_drew)); exact Kd.S_mono HO_18.out (fun _ hk => ⟨hk.2, hk.1.2⟩)) hg hat); have n1_ := Aside0.mk (Kd.R_after (ok := (fun _ => True)) (by (with_reducible repeat (first | apply Kd.R_alloc | apply Kd.R_drewN | apply Kd.R_drew)); exact HO376.out) hg hat); have n2_ := Aside0.mk (hb); have n3_ := Aside0.mk (ho); clear HO_18; clear HO376; clear HB; clear HO373; have HO_18 := n0_; have HO376 := n1_; have HB := n2_; have HO379 := n3_; clear n0_ n1_ n2_ n3_; clear ho hb hg hat))
                                      (try simp only [Act.put, List.setIfInBounds_toArray, List.set_cons_zero, List.set_cons_succ])
                                      go_cut [93] (fun v93 wc => ∃ (kq : Nat) (x93_46 : Bool), v93 = .bool x93_46 ∧ Aside0 (partitalaw10_TurnsJumps.j2 kq true (wrap64 (1 + (wrap64 (Int.tmod a0 60)))) (ji14) (ji18) (ji22) (ji27) x17_1 y370 x19_30 y377 x93_46 = some r) ∧ Aside0 (kq ≤ kj30) ∧ Aside0 (Kd.S k38 38 wc w.heap.size (fun k_ => some k_ ≠ (v378 : Value).ownBlock) (.slice (some ⟨go17, 0, none⟩) y370.length co17) y370) ∧ Aside0 (Kd.R (Kd.int .i64) 3 wc w.heap.size (fun _ => True) v378 y377) ∧ Aside0 (Below w.heap.size w wc))
                                      case first =>
                                        have H := HC47.out
                                        clear HC47
                                        by_cases c52 : x17_1 = 2
                                        · rw [if_pos c52] at H
                                          have c52b0 : (x17_1 == 2) = true := beq_iff_eq.mpr c52
                                          have c52b1 : (x17_1 != 2) = false := bne_eq_false_iff_eq.mpr c52
                                          clear c52
                                          (first | rw [c52b0] | (simp only [i64_w, i32_w]; rw [c52b0]) | skip)
                                          have H' := Aside0.mk H
                                          clear H
                                          go_wp2
                                          go_meet
                                          case rel => exact ⟨_, (true), (by first | rfl | (simp; done) | (simp [*]; done)), H', ⟨by have := HK1.out; have := HJ30.out; first | omega | exact Nat.le_refl _⟩, ⟨by (try simp only [hl18_30]); (with_reducible repeat (first | apply Kd.S_alloc | apply Kd.S_drewN | apply Kd.S_drew)); exact Kd.S_mono HO_18.out (fun _ hk => hk.2)⟩, ⟨by (try simp only [hl18_30]); (with_reducible repeat (first | apply Kd.R_alloc | apply Kd.R_drewN | apply Kd.R_drew)); exact Kd.R_mono HO379.out (fun _ hk => trivial)⟩, ⟨by repeat (first | (with_reducible first | exact HB.out | apply below_alloc | apply pw_below_drewN | apply below_drew1) | exact HB.out)⟩⟩
                                        · rw [if_neg c52] at H
                                          have c52b0 : (x17_1 == 2) = false := beq_eq_false_iff_ne.mpr c52
                                          have c52b1 : (x17_1 != 2) = true := bne_iff_ne.mpr c52
                                          (first | rw [c52b0] | (simp only [i64_w, i32_w]; rw [c52b0]) | skip)
                                          have H' := Aside0.mk H
                                          clear H
                                          go_wp2
                                          go_meet
                                          case rel => exact ⟨_, ((x17_1 == 5)), (by first | rfl | (simp; done) | (simp [*]; done)), H', ⟨by have := HK1.out; have := HJ30.out; first | omega | exact Nat.le_refl _⟩, ⟨by (try simp only [hl18_30]); (with_reducible repeat (first | apply Kd.S_alloc | apply Kd.S_drewN | apply Kd.S_drew)); exact Kd.S_mono HO_18.out (fun _ hk => hk.2)⟩, ⟨by (try simp only [hl18_30]); (with_reducible repeat (first | apply Kd.R_alloc | apply Kd.R_drewN | apply Kd.R_drew)); exact Kd.R_mono HO379.out (fun _ hk => trivial)⟩, ⟨by repeat (first | (with_reducible first | exact HB.out | apply below_alloc | apply pw_below_drewN | apply below_drew1) | exact HB.out)⟩⟩
                                      case rest =>
                                        clear HC47
                                        try clear c1
                                        try clear p1
                                        try clear q1
                                        try clear hx1
                                        try clear c2
                                        try clear p2
                                        try clear q2
                                        try clear hx2
                                        try clear c3
                                        try clear p3
                                        try clear q3
                                        try clear hx3
                                        try clear c4
                                        try clear hx4
                                        try clear c5
                                        try clear p6
                                        try clear c7
                                        try clear c8
                                        try clear c8b0
                                        try clear c8b1
                                        try clear c9
                                        try clear c9b0
                                        try clear c9b1
                                        try clear c10
                                        try clear c10b0
                                        try clear c10b1
                                        try clear c11
                                        try clear c12
                                        try clear c12b0
                                        try clear c15
                                        try clear c15b0
                                        try clear c16
                                        try clear c16b0
                                        try clear c17
                                        try clear p17
                                        try clear q17
                                        try clear hx17
                                        try clear hf17
                                        try clear c19
                                        try clear c19b0
                                        try clear c20
                                        try clear c20b0
                                        try clear c21
                                        try clear p21
                                        try clear q21
                                        try clear hx21
                                        try clear hf21
                                        try clear c23
                                        try clear c23b0
                                        try clear c24
                                        try clear c24b0
                                        try clear c25
                                        try clear p25
                                        try clear q25
                                        try clear hx25
                                        try clear hf25
                                        try clear c26
                                        try clear p26
                                        try clear q26
                                        try clear hx26
                                        try clear hf26
                                        try clear c28
                                        try clear c28b0
                                        try clear c29
                                        try clear c29b0
                                        try clear c30
                                        try clear p30
                                        try clear q30
                                        try clear hx30
                                        try clear hf30
                                        try clear c33
                                        try clear hx33
                                        try clear hf33
                                        try clear c35
                                        try clear hx35
                                        try clear hf35
                                        try clear c37
                                        try clear hx37
                                        try clear hf37
                                        try clear c39
                                        try clear hx39
                                        try clear hf39
                                        try clear c41
                                        try clear hx41
                                        try clear hf41
                                        try clear c43
                                        try clear c43b0
                                        try clear c46
                                        try clear c52
                                        try clear c52b0
                                        try clear c52b1
                                        try clear hx17_0
                                        try clear hx17_1
                                        try clear hx17_2
                                        try clear hx17_3
                                        try clear hx17_4
                                        try clear hx17_5
                                        try clear hx17_6
                                        try clear hx17_7
                                        try clear hx21_0
                                        try clear hx21_1
                                        try clear hx21_2
                                        try clear hx21_3
                                        try clear hx21_4
                                        try clear hx21_5
                                        try clear hx21_6
                                        try clear hx21_7
                                        try clear hx25_0
                                        try clear hx25_1
                                        try clear hx25_2
                                        try clear hx25_3
                                        try clear hx25_4
                                        try clear hx25_5
                                        try clear hx25_6
                                        try clear hx25_7
                                        try clear hx26_0
                                        try clear hx26_1
                                        try clear hx26_2
                                        try clear hx26_3
                                        try clear hx26_4
                                        try clear hx26_5
                                        try clear hx26_6
                                        try clear hx26_7
                                        try clear hx30_0
                                        try clear hx30_1
                                        try clear hx30_2
                                        try clear hx30_3
                                        try clear hx30_4
                                        try clear hx30_5
                                        try clear hx30_6
                                        try clear hx30_7
                                        try clear hx33_7
                                        try clear hx35_3
                                        try clear hx37_6
                                        try clear hx39_5
                                        try clear hx41_4
                                        try clear p1
                                        try clear p17
                                        try clear p2
                                        try clear p21
                                        try clear p25
                                        try clear p26
                                        try clear p3
                                        try clear p30
                                        try clear p6
                                        try clear q1
                                        try clear q17
                                        try clear q2
                                        try clear q21
                                        try clear q25
                                        try clear q26
                                        try clear q3
                                        try clear q30
                                        obtain ⟨kq, x93_46, rfl, HA, HJ46, HO_18, HO_20, HB⟩ := hcut
                                        cases kq with
                                        | zero => exact absurd HA.out (by simp [partitalaw10_TurnsJumps.j2])
                                        | succ kj46 =>
                                          have H := HA.out
                                          clear HA
                                          simp only [partitalaw10_TurnsJumps.j2] at H
                                          have HC53 := Aside0.mk H
                                          clear H
                                          go_upto_if 93 with (fail)
                                          go_cut [20] (fun v20 wc => ∃ (kq : Nat) (x20_52 : List Int), Aside0 (partitalaw10_TurnsJumps.j3 kq true (wrap64 (1 + (wrap64 (Int.tmod a0 60)))) (ji14) (ji18) (ji22) (ji27) x17_1 y370 x19_30 x20_52 = some r) ∧ Aside0 (kq ≤ kj46) ∧ Aside0 (Kd.S k38 38 wc w.heap.size (fun k_ => some k_ ≠ (v20 : Value).ownBlock) (.slice (some ⟨go17, 0, none⟩) y370.length co17) y370) ∧ Aside0 (Kd.R (Kd.int .i64) 3 wc w.heap.size (fun _ => True) v20 x20_52) ∧ Aside0 (Below w.heap.size w wc))
                                          case first =>
                                            have H := HC53.out
                                            clear HC53
                                            by_cases c54 : x93_46 = true
                                            · subst c54
                                              have H1 : ((partitalaw10_rising.f kj46 0 (wrap64 ((ji14) + 1))).bind fun t380 => ((partitalaw10_rising.f kj46 x19_30 (wrap64 ((ji22) + 1))).bind fun t383 => (if t380.length + t383.length < 17592186044416 then (partitalaw10_TurnsJumps.j3 kj46 true (wrap64 (1 + (wrap64 (Int.tmod a0 60)))) (ji14) (ji18) (ji22) (ji27) x17_1 y370 x19_30 (t380 ++ t383)) else (none)))) = some r := by rw [if_pos rfl] at H; exact H
                                              clear H
                                              have H := H1
                                              clear H1
                                              replace H := Option.bind_eq_some_iff.mp H
                                              obtain ⟨t380, A550, H⟩ := H
                                              replace H : ((partitalaw10_rising.f kj46 x19_30 (wrap64 ((ji22) + 1))).bind fun t383 => (if t380.length + t383.length < 17592186044416 then (partitalaw10_TurnsJumps.j3 kj46 true (wrap64 (1 + (wrap64 (Int.tmod a0 60)))) (ji14) (ji18) (ji22) (ji27) x17_1 y370 x19_30 (t380 ++ t383)) else (none))) = some r := H
                                              have A55 := Aside0.mk A550
                                              clear A550
                                              replace H := Option.bind_eq_some_iff.mp H
                                              obtain ⟨t383, A560, H⟩ := H
                                              replace H : (if t380.length + t383.length < 17592186044416 then (partitalaw10_TurnsJumps.j3 kj46 true (wrap64 (1 + (wrap64 (Int.tmod a0 60)))) (ji14) (ji18) (ji22) (ji27) x17_1 y370 x19_30 (t380 ++ t383)) else (none)) = some r := H
                                              have A56 := Aside0.mk A560
                                              clear A560
                                              by_cases c57 : t380.length + t383.length < 17592186044416
                                              · rw [if_pos c57] at H
                                                have LMc57 := Aside0.mk c57
                                                clear c57
                                                obtain ⟨y386, hy386⟩ : ∃ y_ : List Int, y_ = (t380 ++ t383) := ⟨_, rfl⟩
                                                replace H : (partitalaw10_TurnsJumps.j3 kj46 true (wrap64 (1 + (wrap64 (Int.tmod a0 60)))) (ji14) (ji18) (ji22) (ji27) x17_1 y370 x19_30 y386) = some r := by first | (rw [hy386]; with_reducible exact H) | (have H2_ := (Option.bind_some _ _).symm.trans H; rw [hy386]; with_reducible exact H2_) | (have H2_ := (Option.bind_some _ _).symm.trans H; with_reducible exact H2_) | with_reducible exact H | (rw [hy386]; exact H) | exact H
                                                have Ny386 := Aside0.mk hy386
                                                clear hy386
                                                have H' := Aside0.mk H
                                                clear H
                                                go_wp2_with (first | ((with_reducible refine gate_callee (f := 21) rfl ?_); refine goesL_ (some 96) rfl rfl Try.func21 (by kernel_rfl) rfl #[.int .i64 0, .int .i64 (wrap64 ((ji14) + 1))] rfl (by (try simp only [List.map_toArray, List.map_cons, List.map_nil]); first | done | (simp only [hji14]; rfl) | rfl | (simp only [List.length_drop, List.length_take]; rfl)) ?_; (with_reducible refine (partitalaw10_rising.calls kj46 0 (wrap64 ((ji14) + 1)) t380 _ A55.out).mono ?_); rintro e w58 ⟨v381, rfl, ho0, hb⟩; refine ⟨_, rfl, ?_⟩; have n0_ := Aside0.mk (Kd.S_elder' (by (with_reducible repeat (first | apply Kd.S_alloc | apply Kd.S_drewN | apply Kd.S_drew)); exact HO_18.out) (Kd.R_base ho0) hb); have n1_ := Aside0.mk (Kd.R_elder' (by (with_reducible repeat (first | apply Kd.R_alloc | apply Kd.R_drewN | apply Kd.R_drew)); exact HO_20.out) (Kd.R_base ho0) hb); have n2_ := Aside0.mk (Kd.R_lower (Kd.R_new' ho0 (Kd.R_lt (by (with_reducible repeat (first | apply Kd.R_alloc | apply Kd.R_drewN | apply Kd.R_drew)); exact HO_20.out))) (below_size (by repeat (first | (with_reducible first | exact HB.out | apply below_alloc | apply pw_below_drewN | apply below_drew1) | exact HB.out)))); have n3_ := Aside0.mk (below_step (by repeat (first | (with_reducible first | exact HB.out | apply below_alloc | apply pw_below_drewN | apply below_drew1) | exact HB.out)) hb); clear HO_18; clear HO_20; clear HB; have HO_18 := n0_; have HO_20 := n1_; have HO382 := n2_; have HB := n3_; clear n0_ n1_ n2_ n3_; (try clear hb); (try clear hb2); (try clear hk); (try clear hi); (try clear ho0)) | ((with_reducible refine gate_callee (f := 21) rfl ?_); refine goesL_ (some 100) rfl rfl Try.func21 (by kernel_rfl) rfl #[.int .i64 x19_30, .int .i64 (wrap64 ((ji22) + 1))] rfl (by (try simp only [List.map_toArray, List.map_cons, List.map_nil]); first | done | (simp only [hji22]; rfl) | rfl | (simp only [List.length_drop, List.length_take]; rfl)) ?_; (with_reducible refine (partitalaw10_rising.calls kj46 x19_30 (wrap64 ((ji22) + 1)) t383 _ A56.out).mono ?_); rintro e w59 ⟨v384, rfl, ho0, hb⟩; refine ⟨_, rfl, ?_⟩; have n0_ := Aside0.mk (Kd.S_elder' (by (with_reducible repeat (first | apply Kd.S_alloc | apply Kd.S_drewN | apply Kd.S_drew)); exact HO_18.out) (Kd.R_base ho0) hb); have n1_ := Aside0.mk (Kd.R_elder' (by (with_reducible repeat (first | apply Kd.R_alloc | apply Kd.R_drewN | apply Kd.R_drew)); exact HO_20.out) (Kd.R_base ho0) hb); have n2_ := Aside0.mk (Kd.R_elder' (by (with_reducible repeat (first | apply Kd.R_alloc | apply Kd.R_drewN | apply Kd.R_drew)); exact HO382.out) (Kd.R_base ho0) hb); have n3_ := Aside0.mk (Kd.R_lower (Kd.R_new' (Kd.R_new' ho0 (Kd.R_lt (by (with_reducible repeat (first | apply Kd.R_alloc | apply Kd.R_drewN | apply Kd.R_drew)); exact HO_20.out))) (Kd.R_lt (by (with_reducible repeat (first | apply Kd.R_alloc | apply Kd.R_drewN | apply Kd.R_drew)); exact HO382.out))) (below_size (by repeat (first | (with_reducible first | exact HB.out | apply below_alloc | apply pw_below_drewN | apply below_drew1) | exact HB.out)))); have n4_ := Aside0.mk (below_step (by repeat (first | (with_reducible first | exact HB.out | apply below_alloc | apply pw_below_drewN | apply below_drew1) | exact HB.out)) hb); clear HO_18; clear HO_20; clear HO382; clear HB; have HO_18 := n0_; have HO_20 := n1_; have HO382 := n2_; have HO385 := n3_; have HB := n4_; clear n0_ n1_ n2_ n3_ n4_; (try clear hb); (try clear hb2); (try clear hk); (try clear hi); (try clear ho0); obtain ⟨Ao61, co61, eo61⟩ := Kd.R_slice HO385.out; subst eo61) | ((with_reducible refine gate_builtin (b := .append) (xs := #[.tmp 96, .tmp 100]) rfl ?_); at_builtin; refine Kd.R_append_rows (Kd.int .i64) (w0 := w) w.heap.size rfl (.tmp 96) (.tmp 100) 31 3 (.int .i64 0) 8 rfl Try.underlying31 info3 rfl (by decide) (by omega) v381 t380 t383 _ _ _ (fun k_ => some k_ ≠ (v378 : Value).ownBlock ∧ some k_ ≠ (.slice Ao61 t383.length co61 : Value).ownBlock) (fun _ => False) rfl rfl ?aO ?aR (fun _ _ h => h) (fun _ h => h.elim) ?aF ?aB ?aS ?aL ?_; (case aR => repeat (first | exact (Kd.R_reads' HO385.out).2.2 | (with_reducible refine Kd.C_alloc ?_ _) | (with_reducible refine Kd.C_drewN ?_ _) | (with_reducible refine Kd.C_drew ?_))); (case aB => exact (by repeat (first | (with_reducible first | exact HB.out | apply below_alloc | apply pw_below_drewN | apply below_drew1) | exact HB.out))); (case aF => exact (fun k_ hk => ⟨Kd.fresh' (Kd.R_lt (by (with_reducible repeat (first | apply Kd.R_alloc | apply Kd.R_drewN | apply Kd.R_drew)); exact HO_20.out)) k_ hk, Kd.fresh' (Kd.R_lt (by (with_reducible repeat (first | apply Kd.R_alloc | apply Kd.R_drewN | apply Kd.R_drew)); exact HO385.out)) k_ hk⟩)); (case aO => exact (by (with_reducible repeat (first | apply Kd.R_alloc | apply Kd.R_drewN | apply Kd.R_drew)); exact Kd.R_mono HO382.out (fun _ hk => ⟨hk.1.2, hk.2⟩))); (case aS => exact (below_size (by repeat (first | (with_reducible first | exact HB.out | apply below_alloc | apply pw_below_drewN | apply below_drew1) | exact HB.out)))); (case aL => have := LMc57.out; omega); intro v387 w60 ho hb hg hat; rw [← Ny386.out] at ho; have n0_ := Aside0.mk (Kd.S_after (ok := (fun k_ => some k_ ≠ (v378 : Value).ownBlock ∧ some k_ ≠ (.slice Ao61 t383.length co61 : Value).ownBlock)) (by (with_reducible repeat (first | apply Kd.S_alloc | apply Kd.S_drewN | apply Kd.S_drew)); exact Kd.S_mono HO_18.out (fun _ hk => ⟨⟨hk.1.1, hk.2⟩, hk.1.2⟩)) hg hat); have n1_ := Aside0.mk (Kd.R_after (ok := (fun k_ => some k_ ≠ (.slice Ao61 t383.length co61 : Value).ownBlock)) (by (with_reducible repeat (first | apply Kd.R_alloc | apply Kd.R_drewN | apply Kd.R_drew)); exact Kd.R_mono HO_20.out (fun _ hk => ⟨hk.2, hk.1.2⟩)) hg hat); have n2_ := Aside0.mk (Kd.R_after (ok := (fun k_ => some k_ ≠ (v378 : Value).ownBlock)) (by (with_reducible repeat (first | apply Kd.R_alloc | apply Kd.R_drewN | apply Kd.R_drew)); exact Kd.R_mono HO385.out (fun _ hk => ⟨hk.1.2, hk.2⟩)) hg hat); have n3_ := Aside0.mk (hb); have n4_ := Aside0.mk (ho); clear HO_18; clear HO_20; clear HO385; clear HB; clear HO382; have HO_18 := n0_; have HO_20 := n1_; have HO385 := n2_; have HB := n3_; have HO388 := n4_; clear n0_ n1_ n2_ n3_ n4_; clear ho hb hg hat))
                                                go_meet
                                                case rel => exact ⟨_, (y386), H', ⟨by have := HK1.out; have := HJ30.out; have := HJ46.out; first | omega | exact Nat.le_refl _⟩, ⟨by (try simp only [hl18_30]); (with_reducible repeat (first | apply Kd.S_alloc | apply Kd.S_drewN | apply Kd.S_drew)); exact Kd.S_mono HO_18.out (fun _ hk => hk.2)⟩, ⟨by (try simp only [hl18_30]); (with_reducible repeat (first | apply Kd.R_alloc | apply Kd.R_drewN | apply Kd.R_drew)); exact Kd.R_mono HO388.out (fun _ hk => trivial)⟩, ⟨by repeat (first | (with_reducible first | exact HB.out | apply below_alloc | apply pw_below_drewN | apply below_drew1) | exact HB.out)⟩⟩
                                              · rw [if_neg c57] at H
                                                exact absurd H (by simp)
                                            · replace c54 := Bool.eq_false_iff.mpr c54
                                              subst c54
                                              have H1 : (partitalaw10_TurnsJumps.j3 kj46 true (wrap64 (1 + (wrap64 (Int.tmod a0 60)))) (ji14) (ji18) (ji22) (ji27) x17_1 y370 x19_30 y377) = some r := by rw [if_neg (show ¬ (false = true) by decide)] at H; exact H
                                              clear H
                                              have H := H1
                                              clear H1
                                              have H' := Aside0.mk H
                                              clear H
                                              go_wp2
                                              go_meet
                                              case rel => exact ⟨_, (y377), H', ⟨by have := HK1.out; have := HJ30.out; have := HJ46.out; first | omega | exact Nat.le_refl _⟩, ⟨by (try simp only [hl18_30]); (with_reducible repeat (first | apply Kd.S_alloc | apply Kd.S_drewN | apply Kd.S_drew)); exact HO_18.out⟩, ⟨by (try simp only [hl18_30]); (with_reducible repeat (first | apply Kd.R_alloc | apply Kd.R_drewN | apply Kd.R_drew)); exact HO_20.out⟩, ⟨by repeat (first | (with_reducible first | exact HB.out | apply below_alloc | apply pw_below_drewN | apply below_drew1) | exact HB.out)⟩⟩
                                          case rest =>
                                            clear HC53
                                            try clear c1
                                            try clear p1
                                            try clear q1
                                            try clear hx1
                                            try clear c2
                                            try clear p2
                                            try clear q2
                                            try clear hx2
                                            try clear c3
                                            try clear p3
                                            try clear q3
                                            try clear hx3
                                            try clear c4
                                            try clear hx4
                                            try clear c5
                                            try clear p6
                                            try clear c7
                                            try clear c8
                                            try clear c8b0
                                            try clear c8b1
                                            try clear c9
                                            try clear c9b0
                                            try clear c9b1
                                            try clear c10
                                            try clear c10b0
                                            try clear c10b1
                                            try clear c11
                                            try clear c12
                                            try clear c12b0
                                            try clear c15
                                            try clear c15b0
                                            try clear c16
                                            try clear c16b0
                                            try clear c17
                                            try clear p17
                                            try clear q17
                                            try clear hx17
                                            try clear hf17
                                            try clear c19
                                            try clear c19b0
                                            try clear c20
                                            try clear c20b0
                                            try clear c21
                                            try clear p21
                                            try clear q21
                                            try clear hx21
                                            try clear hf21
                                            try clear c23
                                            try clear c23b0
                                            try clear c24
                                            try clear c24b0
                                            try clear c25
                                            try clear p25
                                            try clear q25
                                            try clear hx25
                                            try clear hf25
                                            try clear c26
                                            try clear p26
                                            try clear q26
                                            try clear hx26
                                            try clear hf26
                                            try clear c28
                                            try clear c28b0
                                            try clear c29
                                            try clear c29b0
                                            try clear c30
                                            try clear p30
                                            try clear q30
                                            try clear hx30
                                            try clear hf30
                                            try clear c33
                                            try clear hx33
                                            try clear hf33
                                            try clear c35
                                            try clear hx35
                                            try clear hf35
                                            try clear c37
                                            try clear hx37
                                            try clear hf37
                                            try clear c39
                                            try clear hx39
                                            try clear hf39
                                            try clear c41
                                            try clear hx41
                                            try clear hf41
                                            try clear c43
                                            try clear c43b0
                                            try clear c46
                                            try clear c52
                                            try clear c52b0
                                            try clear c52b1
                                            try clear c54
                                            try clear c57
                                            try clear hx17_0
                                            try clear hx17_1
                                            try clear hx17_2
                                            try clear hx17_3
                                            try clear hx17_4
                                            try clear hx17_5
                                            try clear hx17_6
                                            try clear hx17_7
                                            try clear hx21_0
                                            try clear hx21_1
                                            try clear hx21_2
                                            try clear hx21_3
                                            try clear hx21_4
                                            try clear hx21_5
                                            try clear hx21_6
                                            try clear hx21_7
                                            try clear hx25_0
                                            try clear hx25_1
                                            try clear hx25_2
                                            try clear hx25_3
                                            try clear hx25_4
                                            try clear hx25_5
                                            try clear hx25_6
                                            try clear hx25_7
                                            try clear hx26_0
                                            try clear hx26_1
                                            try clear hx26_2
                                            try clear hx26_3
                                            try clear hx26_4
                                            try clear hx26_5
                                            try clear hx26_6
                                            try clear hx26_7
                                            try clear hx30_0
                                            try clear hx30_1
                                            try clear hx30_2
                                            try clear hx30_3
                                            try clear hx30_4
                                            try clear hx30_5
                                            try clear hx30_6
                                            try clear hx30_7
                                            try clear hx33_7
                                            try clear hx35_3
                                            try clear hx37_6
                                            try clear hx39_5
                                            try clear hx41_4
                                            try clear p1
                                            try clear p17
                                            try clear p2
                                            try clear p21
                                            try clear p25
                                            try clear p26
                                            try clear p3
                                            try clear p30
                                            try clear p6
                                            try clear q1
                                            try clear q17
                                            try clear q2
                                            try clear q21
                                            try clear q25
                                            try clear q26
                                            try clear q3
                                            try clear q30
                                            obtain ⟨kq, x20_52, HA, HJ52, HO_18, HO_20, HB⟩ := hcut
                                            cases kq with
                                            | zero => exact absurd HA.out (by simp [partitalaw10_TurnsJumps.j3])
                                            | succ kj52 =>
                                              have H := HA.out
                                              clear HA
                                              simp only [partitalaw10_TurnsJumps.j3] at H
                                              have HC62 := Aside0.mk H
                                              clear H
                                              go_upto_region 24 with (fail)
                                              go_cut [107] (fun v107 wc => ∃ (kq : Nat) (x107_61 : Bool), v107 = .bool x107_61 ∧ Aside0 (partitalaw10_TurnsJumps.j4 kq true (wrap64 (1 + (wrap64 (Int.tmod a0 60)))) (ji14) (ji18) (ji22) (ji27) x17_1 y370 x19_30 x20_52 x107_61 = some r) ∧ Aside0 (kq ≤ kj52) ∧ Aside0 (Kd.S k38 38 wc w.heap.size (fun k_ => some k_ ≠ (u20 : Value).ownBlock) (.slice (some ⟨go17, 0, none⟩) y370.length co17) y370) ∧ Aside0 (Kd.R (Kd.int .i64) 3 wc w.heap.size (fun _ => True) u20 x20_52) ∧ Aside0 (Below w.heap.size w wc))
                                              case first =>
                                                have H := HC62.out
                                                clear HC62
                                                by_cases c63 : x17_1 = 3
                                                · rw [if_pos c63] at H
                                                  have c63b0 : (x17_1 == 3) = true := beq_iff_eq.mpr c63
                                                  have c63b1 : (x17_1 != 3) = false := bne_eq_false_iff_eq.mpr c63
                                                  clear c63
                                                  (first | rw [c63b0] | (simp only [i64_w, i32_w]; rw [c63b0]) | skip)
                                                  have H' := Aside0.mk H
                                                  clear H
                                                  go_wp2
                                                  go_meet
                                                  case rel => exact ⟨_, (true), (by first | rfl | (simp; done) | (simp [*]; done)), H', ⟨by have := HK1.out; have := HJ30.out; have := HJ46.out; have := HJ52.out; first | omega | exact Nat.le_refl _⟩, ⟨by (try simp only [hl18_30]); (with_reducible repeat (first | apply Kd.S_alloc | apply Kd.S_drewN | apply Kd.S_drew)); exact HO_18.out⟩, ⟨by (try simp only [hl18_30]); (with_reducible repeat (first | apply Kd.R_alloc | apply Kd.R_drewN | apply Kd.R_drew)); exact HO_20.out⟩, ⟨by repeat (first | (with_reducible first | exact HB.out | apply below_alloc | apply pw_below_drewN | apply below_drew1) | exact HB.out)⟩⟩
                                                · rw [if_neg c63] at H
                                                  have c63b0 : (x17_1 == 3) = false := beq_eq_false_iff_ne.mpr c63
                                                  have c63b1 : (x17_1 != 3) = true := bne_iff_ne.mpr c63
                                                  (first | rw [c63b0] | (simp only [i64_w, i32_w]; rw [c63b0]) | skip)
                                                  have H' := Aside0.mk H
                                                  clear H
                                                  go_wp2
                                                  go_meet
                                                  case rel => exact ⟨_, ((x17_1 == 6)), (by first | rfl | (simp; done) | (simp [*]; done)), H', ⟨by have := HK1.out; have := HJ30.out; have := HJ46.out; have := HJ52.out; first | omega | exact Nat.le_refl _⟩, ⟨by (try simp only [hl18_30]); (with_reducible repeat (first | apply Kd.S_alloc | apply Kd.S_drewN | apply Kd.S_drew)); exact HO_18.out⟩, ⟨by (try simp only [hl18_30]); (with_reducible repeat (first | apply Kd.R_alloc | apply Kd.R_drewN | apply Kd.R_drew)); exact HO_20.out⟩, ⟨by repeat (first | (with_reducible first | exact HB.out | apply below_alloc | apply pw_below_drewN | apply below_drew1) | exact HB.out)⟩⟩
                                              case rest =>
                                                clear HC62
                                                try clear c1
                                                try clear p1
                                                try clear q1
                                                try clear hx1
                                                try clear c2
                                                try clear p2
                                                try clear q2
                                                try clear hx2
                                                try clear c3
                                                try clear p3
                                                try clear q3
                                                try clear hx3
                                                try clear c4
                                                try clear hx4
                                                try clear c5
                                                try clear c6
                                                try clear p6
                                                try clear c7
                                                try clear c8
                                                try clear c8b0
                                                try clear c8b1
                                                try clear c9
                                                try clear c9b0
                                                try clear c9b1
                                                try clear c10
                                                try clear c10b0
                                                try clear c10b1
                                                try clear c11
                                                try clear c12
                                                try clear c12b0
                                                try clear c15
                                                try clear c15b0
                                                try clear c16
                                                try clear c16b0
                                                try clear c17
                                                try clear p17
                                                try clear q17
                                                try clear hx17
                                                try clear hf17
                                                try clear c19
                                                try clear c19b0
                                                try clear c20
                                                try clear c20b0
                                                try clear c21
                                                try clear p21
                                                try clear q21
                                                try clear hx21
                                                try clear hf21
                                                try clear c23
                                                try clear c23b0
                                                try clear c24
                                                try clear c24b0
                                                try clear c25
                                                try clear p25
                                                try clear q25
                                                try clear hx25
                                                try clear hf25
                                                try clear c26
                                                try clear p26
                                                try clear q26
                                                try clear hx26
                                                try clear hf26
                                                try clear c28
                                                try clear c28b0
                                                try clear c29
                                                try clear c29b0
                                                try clear c30
                                                try clear p30
                                                try clear q30
                                                try clear hx30
                                                try clear hf30
                                                try clear c33
                                                try clear hx33
                                                try clear hf33
                                                try clear c35
                                                try clear hx35
                                                try clear hf35
                                                try clear c37
                                                try clear hx37
                                                try clear hf37
                                                try clear c39
                                                try clear hx39
                                                try clear hf39
                                                try clear c41
                                                try clear hx41
                                                try clear hf41
                                                try clear c43
                                                try clear c43b0
                                                try clear c46
                                                try clear c52
                                                try clear c52b0
                                                try clear c52b1
                                                try clear c54
                                                try clear c57
                                                try clear c63
                                                try clear c63b0
                                                try clear c63b1
                                                try clear hx17_0
                                                try clear hx17_1
                                                try clear hx17_2
                                                try clear hx17_3
                                                try clear hx17_4
                                                try clear hx17_5
                                                try clear hx17_6
                                                try clear hx17_7
                                                try clear hx21_0
                                                try clear hx21_1
                                                try clear hx21_2
                                                try clear hx21_3
                                                try clear hx21_4
                                                try clear hx21_5
                                                try clear hx21_6
                                                try clear hx21_7
                                                try clear hx25_0
                                                try clear hx25_1
                                                try clear hx25_2
                                                try clear hx25_3
                                                try clear hx25_4
                                                try clear hx25_5
                                                try clear hx25_6
                                                try clear hx25_7
                                                try clear hx26_0
                                                try clear hx26_1
                                                try clear hx26_2
                                                try clear hx26_3
                                                try clear hx26_4
                                                try clear hx26_5
                                                try clear hx26_6
                                                try clear hx26_7
                                                try clear hx30_0
                                                try clear hx30_1
                                                try clear hx30_2
                                                try clear hx30_3
                                                try clear hx30_4
                                                try clear hx30_5
                                                try clear hx30_6
                                                try clear hx30_7
                                                try clear hx33_7
                                                try clear hx35_3
                                                try clear hx37_6
                                                try clear hx39_5
                                                try clear hx41_4
                                                try clear p1
                                                try clear p17
                                                try clear p2
                                                try clear p21
                                                try clear p25
                                                try clear p26
                                                try clear p3
                                                try clear p30
                                                try clear p6
                                                try clear q1
                                                try clear q17
                                                try clear q2
                                                try clear q21
                                                try clear q25
                                                try clear q26
                                                try clear q3
                                                try clear q30
                                                obtain ⟨kq, x107_61, rfl, HA, HJ61, HO_18, HO_20, HB⟩ := hcut
                                                cases kq with
                                                | zero => exact absurd HA.out (by simp [partitalaw10_TurnsJumps.j4])
                                                | succ kj61 =>
                                                  have H := HA.out
                                                  clear HA
                                                  simp only [partitalaw10_TurnsJumps.j4] at H
                                                  have HC64 := Aside0.mk H
                                                  clear H
                                                  go_upto_if 107 with (fail)
                                                  go_cut [20] (fun v20 wc => ∃ (kq : Nat) (x20_63 : List Int), Aside0 (partitalaw10_TurnsJumps.j5 kq true (wrap64 (1 + (wrap64 (Int.tmod a0 60)))) (ji14) (ji18) (ji22) (ji27) x17_1 y370 x20_63 = some r) ∧ Aside0 (kq ≤ kj61) ∧ Aside0 (Kd.S k38 38 wc w.heap.size (fun k_ => some k_ ≠ (v20 : Value).ownBlock) (.slice (some ⟨go17, 0, none⟩) y370.length co17) y370) ∧ Aside0 (Kd.R (Kd.int .i64) 3 wc w.heap.size (fun _ => True) v20 x20_63) ∧ Aside0 (Below w.heap.size w wc))
                                                  case first =>
                                                    have H := HC64.out
                                                    clear HC64
                                                    by_cases c65 : x107_61 = true
                                                    · subst c65
                                                      have H1 : ((partitalaw10_rising.f kj61 0 (wrap64 ((ji14) + 1))).bind fun t389 => ((partitalaw10_rising.f kj61 x19_30 (wrap64 ((ji22) + 1))).bind fun t392 => (if t389.length + t392.length < 17592186044416 then ((some (t389 ++ t392 : List Int)).bind fun y395 => ((partitalaw10_rising.f kj61 (ji27) (wrap64 (1 + (wrap64 (Int.tmod a0 60))))).bind fun t398 => (if y395.length + t398.length < 17592186044416 then (partitalaw10_TurnsJumps.j5 kj61 true (wrap64 (1 + (wrap64 (Int.tmod a0 60)))) (ji14) (ji18) (ji22) (ji27) x17_1 y370 (y395 ++ t398)) else (none)))) else (none)))) = some r := by rw [if_pos rfl] at H; exact H
                                                      clear H
                                                      have H := H1
                                                      clear H1
                                                      replace H := Option.bind_eq_some_iff.mp H
                                                      obtain ⟨t389, A660, H⟩ := H
                                                      replace H : ((partitalaw10_rising.f kj61 x19_30 (wrap64 ((ji22) + 1))).bind fun t392 => (if t389.length + t392.length < 17592186044416 then ((some (t389 ++ t392 : List Int)).bind fun y395 => ((partitalaw10_rising.f kj61 (ji27) (wrap64 (1 + (wrap64 (Int.tmod a0 60))))).bind fun t398 => (if y395.length + t398.length < 17592186044416 then (partitalaw10_TurnsJumps.j5 kj61 true (wrap64 (1 + (wrap64 (Int.tmod a0 60)))) (ji14) (ji18) (ji22) (ji27) x17_1 y370 (y395 ++ t398)) else (none)))) else (none))) = some r := H
                                                      have A66 := Aside0.mk A660
                                                      clear A660
                                                      replace H := Option.bind_eq_some_iff.mp H
                                                      obtain ⟨t392, A670, H⟩ := H
                                                      replace H : (if t389.length + t392.length < 17592186044416 then ((some (t389 ++ t392 : List Int)).bind fun y395 => ((partitalaw10_rising.f kj61 (ji27) (wrap64 (1 + (wrap64 (Int.tmod a0 60))))).bind fun t398 => (if y395.length + t398.length < 17592186044416 then (partitalaw10_TurnsJumps.j5 kj61 true (wrap64 (1 + (wrap64 (Int.tmod a0 60)))) (ji14) (ji18) (ji22) (ji27) x17_1 y370 (y395 ++ t398)) else (none)))) else (none)) = some r := H
                                                      have A67 := Aside0.mk A670
                                                      clear A670
                                                      by_cases c68 : t389.length + t392.length < 17592186044416
                                                      · rw [if_pos c68] at H
                                                        have LMc68 := Aside0.mk c68
                                                        clear c68
                                                        obtain ⟨y395, hy395⟩ : ∃ y_ : List Int, y_ = (t389 ++ t392) := ⟨_, rfl⟩
                                                        replace H : ((partitalaw10_rising.f kj61 (ji27) (wrap64 (1 + (wrap64 (Int.tmod a0 60))))).bind fun t398 => (if y395.length + t398.length < 17592186044416 then (partitalaw10_TurnsJumps.j5 kj61 true (wrap64 (1 + (wrap64 (Int.tmod a0 60)))) (ji14) (ji18) (ji22) (ji27) x17_1 y370 (y395 ++ t398)) else (none))) = some r := by first | (rw [hy395]; with_reducible exact H) | (have H2_ := (Option.bind_some _ _).symm.trans H; rw [hy395]; with_reducible exact H2_) | (have H2_ := (Option.bind_some _ _).symm.trans H; with_reducible exact H2_) | with_reducible exact H | (rw [hy395]; exact H) | exact H
                                                        have Ny395 := Aside0.mk hy395
                                                        clear hy395
                                                        replace H := Option.bind_eq_some_iff.mp H
                                                        obtain ⟨t398, A690, H⟩ := H
                                                        replace H : (if y395.length + t398.length < 17592186044416 then (partitalaw10_TurnsJumps.j5 kj61 true (wrap64 (1 + (wrap64 (Int.tmod a0 60)))) (ji14) (ji18) (ji22) (ji27) x17_1 y370 (y395 ++ t398)) else (none)) = some r := H
                                                        have A69 := Aside0.mk A690
                                                        clear A690
                                                        by_cases c70 : y395.length + t398.length < 17592186044416
                                                        · rw [if_pos c70] at H
                                                          have LMc70 := Aside0.mk c70
                                                          clear c70
                                                          obtain ⟨y401, hy401⟩ : ∃ y_ : List Int, y_ = (y395 ++ t398) := ⟨_, rfl⟩
                                                          replace H : (partitalaw10_TurnsJumps.j5 kj61 true (wrap64 (1 + (wrap64 (Int.tmod a0 60)))) (ji14) (ji18) (ji22) (ji27) x17_1 y370 y401) = some r := by first | (rw [hy401]; with_reducible exact H) | (have H2_ := (Option.bind_some _ _).symm.trans H; rw [hy401]; with_reducible exact H2_) | (have H2_ := (Option.bind_some _ _).symm.trans H; with_reducible exact H2_) | with_reducible exact H | (rw [hy401]; exact H) | exact H
                                                          have Ny401 := Aside0.mk hy401
                                                          clear hy401
                                                          have H' := Aside0.mk H
                                                          clear H
                                                          go_wp2_with (first | ((with_reducible refine gate_callee (f := 21) rfl ?_); refine goesL_ (some 110) rfl rfl Try.func21 (by kernel_rfl) rfl #[.int .i64 0, .int .i64 (wrap64 ((ji14) + 1))] rfl (by (try simp only [List.map_toArray, List.map_cons, List.map_nil]); first | done | (simp only [hji14]; rfl) | rfl | (simp only [List.length_drop, List.length_take]; rfl)) ?_; (with_reducible refine (partitalaw10_rising.calls kj61 0 (wrap64 ((ji14) + 1)) t389 _ A66.out).mono ?_); rintro e w71 ⟨v390, rfl, ho0, hb⟩; refine ⟨_, rfl, ?_⟩; have n0_ := Aside0.mk (Kd.S_elder' (by (with_reducible repeat (first | apply Kd.S_alloc | apply Kd.S_drewN | apply Kd.S_drew)); exact HO_18.out) (Kd.R_base ho0) hb); have n1_ := Aside0.mk (Kd.R_elder' (by (with_reducible repeat (first | apply Kd.R_alloc | apply Kd.R_drewN | apply Kd.R_drew)); exact HO_20.out) (Kd.R_base ho0) hb); have n2_ := Aside0.mk (Kd.R_lower (Kd.R_new' ho0 (Kd.R_lt (by (with_reducible repeat (first | apply Kd.R_alloc | apply Kd.R_drewN | apply Kd.R_drew)); exact HO_20.out))) (below_size (by repeat (first | (with_reducible first | exact HB.out | apply below_alloc | apply pw_below_drewN | apply below_drew1) | exact HB.out)))); have n3_ := Aside0.mk (below_step (by repeat (first | (with_reducible first | exact HB.out | apply below_alloc | apply pw_below_drewN | apply below_drew1) | exact HB.out)) hb); clear HO_18; clear HO_20; clear HB; have HO_18 := n0_; have HO_20 := n1_; have HO391 := n2_; have HB := n3_; clear n0_ n1_ n2_ n3_; (try clear hb); (try clear hb2); (try clear hk); (try clear hi); (try clear ho0)) | ((with_reducible refine gate_callee (f := 21) rfl ?_); refine goesL_ (some 114) rfl rfl Try.func21 (by kernel_rfl) rfl #[.int .i64 x19_30, .int .i64 (wrap64 ((ji22) + 1))] rfl (by (try simp only [List.map_toArray, List.map_cons, List.map_nil]); first | done | (simp only [hji22]; rfl) | rfl | (simp only [List.length_drop, List.length_take]; rfl)) ?_; (with_reducible refine (partitalaw10_rising.calls kj61 x19_30 (wrap64 ((ji22) + 1)) t392 _ A67.out).mono ?_); rintro e w72 ⟨v393, rfl, ho0, hb⟩; refine ⟨_, rfl, ?_⟩; have n0_ := Aside0.mk (Kd.S_elder' (by (with_reducible repeat (first | apply Kd.S_alloc | apply Kd.S_drewN | apply Kd.S_drew)); exact HO_18.out) (Kd.R_base ho0) hb); have n1_ := Aside0.mk (Kd.R_elder' (by (with_reducible repeat (first | apply Kd.R_alloc | apply Kd.R_drewN | apply Kd.R_drew)); exact HO_20.out) (Kd.R_base ho0) hb); have n2_ := Aside0.mk (Kd.R_elder' (by (with_reducible repeat (first | apply Kd.R_alloc | apply Kd.R_drewN | apply Kd.R_drew)); exact HO391.out) (Kd.R_base ho0) hb); have n3_ := Aside0.mk (Kd.R_lower (Kd.R_new' (Kd.R_new' ho0 (Kd.R_lt (by (with_reducible repeat (first | apply Kd.R_alloc | apply Kd.R_drewN | apply Kd.R_drew)); exact HO_20.out))) (Kd.R_lt (by (with_reducible repeat (first | apply Kd.R_alloc | apply Kd.R_drewN | apply Kd.R_drew)); exact HO391.out))) (below_size (by repeat (first | (with_reducible first | exact HB.out | apply below_alloc | apply pw_below_drewN | apply below_drew1) | exact HB.out)))); have n4_ := Aside0.mk (below_step (by repeat (first | (with_reducible first | exact HB.out | apply below_alloc | apply pw_below_drewN | apply below_drew1) | exact HB.out)) hb); clear HO_18; clear HO_20; clear HO391; clear HB; have HO_18 := n0_; have HO_20 := n1_; have HO391 := n2_; have HO394 := n3_; have HB := n4_; clear n0_ n1_ n2_ n3_ n4_; (try clear hb); (try clear hb2); (try clear hk); (try clear hi); (try clear ho0); obtain ⟨Ao74, co74, eo74⟩ := Kd.R_slice HO394.out; subst eo74) | ((with_reducible refine gate_builtin (b := .append) (xs := #[.tmp 110, .tmp 114]) rfl ?_); at_builtin; refine Kd.R_append_rows (Kd.int .i64) (w0 := w) w.heap.size rfl (.tmp 110) (.tmp 114) 31 3 (.int .i64 0) 8 rfl Try.underlying31 info3 rfl (by decide) (by omega) v390 t389 t392 _ _ _ (fun k_ => some k_ ≠ (u20 : Value).ownBlock ∧ some k_ ≠ (.slice Ao74 t392.length co74 : Value).ownBlock) (fun _ => False) rfl rfl ?aO ?aR (fun _ _ h => h) (fun _ h => h.elim) ?aF ?aB ?aS ?aL ?_; (case aR => repeat (first | exact (Kd.R_reads' HO394.out).2.2 | (with_reducible refine Kd.C_alloc ?_ _) | (with_reducible refine Kd.C_drewN ?_ _) | (with_reducible refine Kd.C_drew ?_))); (case aB => exact (by repeat (first | (with_reducible first | exact HB.out | apply below_alloc | apply pw_below_drewN | apply below_drew1) | exact HB.out))); (case aF => exact (fun k_ hk => ⟨Kd.fresh' (Kd.R_lt (by (with_reducible repeat (first | apply Kd.R_alloc | apply Kd.R_drewN | apply Kd.R_drew)); exact HO_20.out)) k_ hk, Kd.fresh' (Kd.R_lt (by (with_reducible repeat (first | apply Kd.R_alloc | apply Kd.R_drewN | apply Kd.R_drew)); exact HO394.out)) k_ hk⟩)); (case aO => exact (by (with_reducible repeat (first | apply Kd.R_alloc | apply Kd.R_drewN | apply Kd.R_drew)); exact Kd.R_mono HO391.out (fun _ hk => ⟨hk.1.2, hk.2⟩))); (case aS => exact (below_size (by repeat (first | (with_reducible first | exact HB.out | apply below_alloc | apply pw_below_drewN | apply below_drew1) | exact HB.out)))); (case aL => have := LMc68.out; omega); intro v396 w73 ho hb hg hat; rw [← Ny395.out] at ho; have n0_ := Aside0.mk (Kd.S_after (ok := (fun k_ => some k_ ≠ (u20 : Value).ownBlock ∧ some k_ ≠ (.slice Ao74 t392.length co74 : Value).ownBlock)) (by (with_reducible repeat (first | apply Kd.S_alloc | apply Kd.S_drewN | apply Kd.S_drew)); exact Kd.S_mono HO_18.out (fun _ hk => ⟨⟨hk.1.1, hk.2⟩, hk.1.2⟩)) hg hat); have n1_ := Aside0.mk (Kd.R_after (ok := (fun k_ => some k_ ≠ (.slice Ao74 t392.length co74 : Value).ownBlock)) (by (with_reducible repeat (first | apply Kd.R_alloc | apply Kd.R_drewN | apply Kd.R_drew)); exact Kd.R_mono HO_20.out (fun _ hk => ⟨hk.2, hk.1.2⟩)) hg hat); have n2_ := Aside0.mk (Kd.R_after (ok := (fun k_ => some k_ ≠ (u20 : Value).ownBlock)) (by (with_reducible repeat (first | apply Kd.R_alloc | apply Kd.R_drewN | apply Kd.R_drew)); exact Kd.R_mono HO394.out (fun _ hk => ⟨hk.1.2, hk.2⟩)) hg hat); have n3_ := Aside0.mk (hb); have n4_ := Aside0.mk (ho); clear HO_18; clear HO_20; clear HO394; clear HB; clear HO391; have HO_18 := n0_; have HO_20 := n1_; have HO394 := n2_; have HB := n3_; have HO397 := n4_; clear n0_ n1_ n2_ n3_ n4_; clear ho hb hg hat) | ((with_reducible refine gate_callee (f := 21) rfl ?_); refine goesL_ (some 118) rfl rfl Try.func21 (by kernel_rfl) rfl #[.int .i64 (ji27), .int .i64 (wrap64 (1 + (wrap64 (Int.tmod a0 60))))] rfl (by (try simp only [List.map_toArray, List.map_cons, List.map_nil]); first | done | (simp only [hji27]; rfl) | rfl | (simp only [List.length_drop, List.length_take]; rfl)) ?_; (with_reducible refine (partitalaw10_rising.calls kj61 (ji27) (wrap64 (1 + (wrap64 (Int.tmod a0 60)))) t398 _ A69.out).mono ?_); rintro e w75 ⟨v399, rfl, ho0, hb⟩; refine ⟨_, rfl, ?_⟩; have n0_ := Aside0.mk (Kd.S_elder' (by (with_reducible repeat (first | apply Kd.S_alloc | apply Kd.S_drewN | apply Kd.S_drew)); exact HO_18.out) (Kd.R_base ho0) hb); have n1_ := Aside0.mk (Kd.R_elder' (by (with_reducible repeat (first | apply Kd.R_alloc | apply Kd.R_drewN | apply Kd.R_drew)); exact HO_20.out) (Kd.R_base ho0) hb); have n2_ := Aside0.mk (Kd.R_elder' (by (with_reducible repeat (first | apply Kd.R_alloc | apply Kd.R_drewN | apply Kd.R_drew)); exact HO394.out) (Kd.R_base ho0) hb); have n3_ := Aside0.mk (Kd.R_elder' (by (with_reducible repeat (first | apply Kd.R_alloc | apply Kd.R_drewN | apply Kd.R_drew)); exact HO397.out) (Kd.R_base ho0) hb); have n4_ := Aside0.mk (Kd.R_lower (Kd.R_new' (Kd.R_new' (Kd.R_new' ho0 (Kd.R_lt (by (with_reducible repeat (first | apply Kd.R_alloc | apply Kd.R_drewN | apply Kd.R_drew)); exact HO_20.out))) (Kd.R_lt (by (with_reducible repeat (first | apply Kd.R_alloc | apply Kd.R_drewN | apply Kd.R_drew)); exact HO394.out))) (Kd.R_lt (by (with_reducible repeat (first | apply Kd.R_alloc | apply Kd.R_drewN | apply Kd.R_drew)); exact HO397.out))) (below_size (by repeat (first | (with_reducible first | exact HB.out | apply below_alloc | apply pw_below_drewN | apply below_drew1) | exact HB.out)))); have n5_ := Aside0.mk (below_step (by repeat (first | (with_reducible first | exact HB.out | apply below_alloc | apply pw_below_drewN | apply below_drew1) | exact HB.out)) hb); clear HO_18; clear HO_20; clear HO394; clear HO397; clear HB; have HO_18 := n0_; have HO_20 := n1_; have HO394 := n2_; have HO397 := n3_; have HO400 := n4_; have HB := n5_; clear n0_ n1_ n2_ n3_ n4_ n5_; (try clear hb); (try clear hb2); (try clear hk); (try clear hi); (try clear ho0); obtain ⟨Ao77, co77, eo77⟩ := Kd.R_slice HO400.out; subst eo77) | ((with_reducible refine gate_builtin (b := .append) (xs := #[.tmp 115, .tmp 118]) rfl ?_); at_builtin; refine Kd.R_append_rows (Kd.int .i64) (w0 := w) w.heap.size rfl (.tmp 115) (.tmp 118) 31 3 (.int .i64 0) 8 rfl Try.underlying31 info3 rfl (by decide) (by omega) v396 y395 t398 _ _ _ (fun k_ => some k_ ≠ (u20 : Value).ownBlock ∧ some k_ ≠ (.slice Ao74 t392.length co74 : Value).ownBlock ∧ some k_ ≠ (.slice Ao77 t398.length co77 : Value).ownBlock) (fun _ => False) rfl rfl ?aO ?aR (fun _ _ h => h) (fun _ h => h.elim) ?aF ?aB ?aS ?aL ?_; (case aR => repeat (first | exact (Kd.R_reads' HO400.out).2.2 | (with_reducible refine Kd.C_alloc ?_ _) | (with_reducible refine Kd.C_drewN ?_ _) | (with_reducible refine Kd.C_drew ?_))); (case aB => exact (by repeat (first | (with_reducible first | exact HB.out | apply below_alloc | apply pw_below_drewN | apply below_drew1) | exact HB.out))); (case aF => exact (fun k_ hk => ⟨Kd.fresh' (Kd.R_lt (by (with_reducible repeat (first | apply Kd.R_alloc | apply Kd.R_drewN | apply Kd.R_drew)); exact HO_20.out)) k_ hk, Kd.fresh' (Kd.R_lt (by (with_reducible repeat (first | apply Kd.R_alloc | apply Kd.R_drewN | apply Kd.R_drew)); exact HO394.out)) k_ hk, Kd.fresh' (Kd.R_lt (by (with_reducible repeat (first | apply Kd.R_alloc | apply Kd.R_drewN | apply Kd.R_drew)); exact HO400.out)) k_ hk⟩)); (case aO => exact (by (with_reducible repeat (first | apply Kd.R_alloc | apply Kd.R_drewN | apply Kd.R_drew)); exact Kd.R_mono HO397.out (fun _ hk => ⟨hk.1.1, ⟨hk.1.2, hk.2⟩⟩))); (case aS => exact (below_size (by repeat (first | (with_reducible first | exact HB.out | apply below_alloc | apply pw_below_drewN | apply below_drew1) | exact HB.out)))); (case aL => have := LMc70.out; omega); intro v402 w76 ho hb hg hat; rw [← Ny401.out] at ho; have n0_ := Aside0.mk (Kd.S_after (ok := (fun k_ => some k_ ≠ (u20 : Value).ownBlock ∧ some k_ ≠ (.slice Ao74 t392.length co74 : Value).ownBlock ∧ some k_ ≠ (.slice Ao77 t398.length co77 : Value).ownBlock)) (by (with_reducible repeat (first | apply Kd.S_alloc | apply Kd.S_drewN | apply Kd.S_drew)); exact Kd.S_mono HO_18.out (fun _ hk => ⟨⟨hk.1.1.1, ⟨hk.1.1.2, hk.2⟩⟩, hk.1.2⟩)) hg hat); have n1_ := Aside0.mk (Kd.R_after (ok := (fun k_ => some k_ ≠ (.slice Ao74 t392.length co74 : Value).ownBlock ∧ some k_ ≠ (.slice Ao77 t398.length co77 : Value).ownBlock)) (by (with_reducible repeat (first | apply Kd.R_alloc | apply Kd.R_drewN | apply Kd.R_drew)); exact Kd.R_mono HO_20.out (fun _ hk => ⟨⟨hk.1.1, hk.2⟩, hk.1.2⟩)) hg hat); have n2_ := Aside0.mk (Kd.R_after (ok := (fun k_ => some k_ ≠ (u20 : Value).ownBlock ∧ some k_ ≠ (.slice Ao77 t398.length co77 : Value).ownBlock)) (by (with_reducible repeat (first | apply Kd.R_alloc | apply Kd.R_drewN | apply Kd.R_drew)); exact Kd.R_mono HO394.out (fun _ hk => ⟨⟨hk.1.1, hk.2⟩, hk.1.2⟩)) hg hat); have n3_ := Aside0.mk (Kd.R_after (ok := (fun k_ => some k_ ≠ (u20 : Value).ownBlock ∧ some k_ ≠ (.slice Ao74 t392.length co74 : Value).ownBlock)) (by (with_reducible repeat (first | apply Kd.R_alloc | apply Kd.R_drewN | apply Kd.R_drew)); exact Kd.R_mono HO400.out (fun _ hk => ⟨⟨hk.1.1.2, hk.1.2⟩, hk.2⟩)) hg hat); have n4_ := Aside0.mk (hb); have n5_ := Aside0.mk (ho); clear HO_18; clear HO_20; clear HO394; clear HO400; clear HB; clear HO397; have HO_18 := n0_; have HO_20 := n1_; have HO394 := n2_; have HO400 := n3_; have HB := n4_; have HO403 := n5_; clear n0_ n1_ n2_ n3_ n4_ n5_; clear ho hb hg hat))
                                                          go_meet
                                                          case rel => exact ⟨_, (y401), H', ⟨by have := HK1.out; have := HJ30.out; have := HJ46.out; have := HJ52.out; have := HJ61.out; first | omega | exact Nat.le_refl _⟩, ⟨by (try simp only [hl18_30]); (with_reducible repeat (first | apply Kd.S_alloc | apply Kd.S_drewN | apply Kd.S_drew)); exact Kd.S_mono HO_18.out (fun _ hk => hk.2)⟩, ⟨by (try simp only [hl18_30]); (with_reducible repeat (first | apply Kd.R_alloc | apply Kd.R_drewN | apply Kd.R_drew)); exact Kd.R_mono HO403.out (fun _ hk => trivial)⟩, ⟨by repeat (first | (with_reducible first | exact HB.out | apply below_alloc | apply pw_below_drewN | apply below_drew1) | exact HB.out)⟩⟩
                                                        · rw [if_neg c70] at H
                                                          exact absurd H (by simp)
                                                      · rw [if_neg c68] at H
                                                        exact absurd H (by simp)
                                                    · replace c65 := Bool.eq_false_iff.mpr c65
                                                      subst c65
                                                      have H1 : (partitalaw10_TurnsJumps.j5 kj61 true (wrap64 (1 + (wrap64 (Int.tmod a0 60)))) (ji14) (ji18) (ji22) (ji27) x17_1 y370 x20_52) = some r := by rw [if_neg (show ¬ (false = true) by decide)] at H; exact H
                                                      clear H
                                                      have H := H1
                                                      clear H1
                                                      have H' := Aside0.mk H
                                                      clear H
                                                      go_wp2
                                                      go_meet
                                                      case rel => exact ⟨_, (x20_52), H', ⟨by have := HK1.out; have := HJ30.out; have := HJ46.out; have := HJ52.out; have := HJ61.out; first | omega | exact Nat.le_refl _⟩, ⟨by (try simp only [hl18_30]); (with_reducible repeat (first | apply Kd.S_alloc | apply Kd.S_drewN | apply Kd.S_drew)); exact HO_18.out⟩, ⟨by (try simp only [hl18_30]); (with_reducible repeat (first | apply Kd.R_alloc | apply Kd.R_drewN | apply Kd.R_drew)); exact HO_20.out⟩, ⟨by repeat (first | (with_reducible first | exact HB.out | apply below_alloc | apply pw_below_drewN | apply below_drew1) | exact HB.out)⟩⟩
                                                  case rest =>
                                                    clear HC64
                                                    try clear c1
                                                    try clear p1
                                                    try clear q1
                                                    try clear hx1
                                                    try clear c2
                                                    try clear p2
                                                    try clear q2
                                                    try clear hx2
                                                    try clear c3
                                                    try clear p3
                                                    try clear q3
                                                    try clear hx3
                                                    try clear c4
                                                    try clear hx4
                                                    try clear c5
                                                    try clear c6
                                                    try clear p6
                                                    try clear c7
                                                    try clear c8
                                                    try clear c8b0
                                                    try clear c8b1
                                                    try clear c9
                                                    try clear c9b0
                                                    try clear c9b1
                                                    try clear c10
                                                    try clear c10b0
                                                    try clear c10b1
                                                    try clear c11
                                                    try clear c12
                                                    try clear c12b0
                                                    try clear c15
                                                    try clear c15b0
                                                    try clear c16
                                                    try clear c16b0
                                                    try clear c17
                                                    try clear p17
                                                    try clear q17
                                                    try clear hx17
                                                    try clear hf17
                                                    try clear c19
                                                    try clear c19b0
                                                    try clear c20
                                                    try clear c20b0
                                                    try clear c21
                                                    try clear p21
                                                    try clear q21
                                                    try clear hx21
                                                    try clear hf21
                                                    try clear c23
                                                    try clear c23b0
                                                    try clear c24
                                                    try clear c24b0
                                                    try clear c25
                                                    try clear p25
                                                    try clear q25
                                                    try clear hx25
                                                    try clear hf25
                                                    try clear c26
                                                    try clear p26
                                                    try clear q26
                                                    try clear hx26
                                                    try clear hf26
                                                    try clear c28
                                                    try clear c28b0
                                                    try clear c29
                                                    try clear c29b0
                                                    try clear c30
                                                    try clear p30
                                                    try clear q30
                                                    try clear hx30
                                                    try clear hf30
                                                    try clear c33
                                                    try clear hx33
                                                    try clear hf33
                                                    try clear c35
                                                    try clear hx35
                                                    try clear hf35
                                                    try clear c37
                                                    try clear hx37
                                                    try clear hf37
                                                    try clear c39
                                                    try clear hx39
                                                    try clear hf39
                                                    try clear c41
                                                    try clear hx41
                                                    try clear hf41
                                                    try clear c43
                                                    try clear c43b0
                                                    try clear c46
                                                    try clear c52
                                                    try clear c52b0
                                                    try clear c52b1
                                                    try clear c54
                                                    try clear c57
                                                    try clear c63
                                                    try clear c63b0
                                                    try clear c63b1
                                                    try clear p64
                                                    try clear c65
                                                    try clear c68
                                                    try clear c70
                                                    try clear hx17_0
                                                    try clear hx17_1
                                                    try clear hx17_2
                                                    try clear hx17_3
                                                    try clear hx17_4
                                                    try clear hx17_5
                                                    try clear hx17_6
                                                    try clear hx17_7
                                                    try clear hx21_0
                                                    try clear hx21_1
                                                    try clear hx21_2
                                                    try clear hx21_3
                                                    try clear hx21_4
                                                    try clear hx21_5
                                                    try clear hx21_6
                                                    try clear hx21_7
                                                    try clear hx25_0
                                                    try clear hx25_1
                                                    try clear hx25_2
                                                    try clear hx25_3
                                                    try clear hx25_4
                                                    try clear hx25_5
                                                    try clear hx25_6
                                                    try clear hx25_7
                                                    try clear hx26_0
                                                    try clear hx26_1
                                                    try clear hx26_2
                                                    try clear hx26_3
                                                    try clear hx26_4
                                                    try clear hx26_5
                                                    try clear hx26_6
                                                    try clear hx26_7
                                                    try clear hx30_0
                                                    try clear hx30_1
                                                    try clear hx30_2
                                                    try clear hx30_3
                                                    try clear hx30_4
                                                    try clear hx30_5
                                                    try clear hx30_6
                                                    try clear hx30_7
                                                    try clear hx33_7
                                                    try clear hx35_3
                                                    try clear hx37_6
                                                    try clear hx39_5
                                                    try clear hx41_4
                                                    try clear p1
                                                    try clear p17
                                                    try clear p2
                                                    try clear p21
                                                    try clear p25
                                                    try clear p26
                                                    try clear p3
                                                    try clear p30
                                                    try clear p6
                                                    try clear q1
                                                    try clear q17
                                                    try clear q2
                                                    try clear q21
                                                    try clear q25
                                                    try clear q26
                                                    try clear q3
                                                    try clear q30
                                                    obtain ⟨kq, x20_63, HA, HJ63, HO_18, HO_20, HB⟩ := hcut
                                                    cases kq with
                                                    | zero => exact absurd HA.out (by simp [partitalaw10_TurnsJumps.j5])
                                                    | succ kj63 =>
                                                      have H := HA.out
                                                      clear HA
                                                      simp only [partitalaw10_TurnsJumps.j5] at H
                                                      replace H := Option.bind_eq_some_iff.mp H
                                                      obtain ⟨⟨t404, t405⟩, A780, H⟩ := H
                                                      replace H : (if t405 = 0 then ((partitalaw10_ints.f kj63 t404 x20_63).bind fun t408 => (if t408 = true then (partitalaw10_TurnsJumps.l0 kj63 true (wrap64 (1 + (wrap64 (Int.tmod a0 60)))) (ji14) (ji18) (ji22) (ji27) (wrap64 (x17_1 + 1))) else (some false))) else (some false)) = some r := H
                                                      have A78 := Aside0.mk A780
                                                      clear A780
                                                      by_cases c79 : t405 = 0
                                                      · rw [if_pos c79] at H
                                                        have c79b0 : (t405 == 0) = true := beq_iff_eq.mpr c79
                                                        have c79b1 : (t405 != 0) = false := bne_eq_false_iff_eq.mpr c79
                                                        clear c79
                                                        replace H := Option.bind_eq_some_iff.mp H
                                                        obtain ⟨t408, A800, H⟩ := H
                                                        replace H : (if t408 = true then (partitalaw10_TurnsJumps.l0 kj63 true (wrap64 (1 + (wrap64 (Int.tmod a0 60)))) (ji14) (ji18) (ji22) (ji27) (wrap64 (x17_1 + 1))) else (some false)) = some r := H
                                                        have A80 := Aside0.mk A800
                                                        clear A800
                                                        by_cases c81 : t408 = true
                                                        · subst c81
                                                          have H1 : (partitalaw10_TurnsJumps.l0 kj63 true (wrap64 (1 + (wrap64 (Int.tmod a0 60)))) (ji14) (ji18) (ji22) (ji27) (wrap64 (x17_1 + 1))) = some r := by rw [if_pos rfl] at H; exact H
                                                          clear H
                                                          have H := H1
                                                          clear H1
                                                          have H' := Aside0.mk H
                                                          clear H
                                                          go_wp2_with (first | ((with_reducible refine gate_callee (f := 15) rfl ?_); refine goesL_ (some 122) rfl rfl Try.func15 (by kernel_rfl) rfl #[.slice (some ⟨go17, 0, none⟩) y370.length co17] rfl (by (try simp only [List.map_toArray, List.map_cons, List.map_nil]); first | done | rfl | (simp only [List.length_drop, List.length_take]; rfl)) ?_; (with_reducible refine (turns_Unfold.calls kj63 _ _ y370 t404 t405 _ ?side1 ?side2 A78.out).mono ?_); (case side1 => repeat (first | exact (Kd.S_reads' HO_18.out).2.2 | (with_reducible refine Kd.C_alloc ?_ _) | (with_reducible refine Kd.C_drewN ?_ _) | (with_reducible refine Kd.C_drew ?_))); (case side2 => exact (Kd.S_reads' HO_18.out).2.1); rintro e w82 ⟨v406, rfl, ho0, hb⟩; refine ⟨_, rfl, ?_⟩; have n0_ := Aside0.mk (Kd.S_elder' (by (with_reducible repeat (first | apply Kd.S_alloc | apply Kd.S_drewN | apply Kd.S_drew)); exact HO_18.out) (Kd.R_base ho0) hb); have n1_ := Aside0.mk (Kd.R_elder' (by (with_reducible repeat (first | apply Kd.R_alloc | apply Kd.R_drewN | apply Kd.R_drew)); exact HO_20.out) (Kd.R_base ho0) hb); have n2_ := Aside0.mk (Kd.R_lower (Kd.R_new' ho0 (Kd.R_lt (by (with_reducible repeat (first | apply Kd.R_alloc | apply Kd.R_drewN | apply Kd.R_drew)); exact HO_20.out))) (below_size (by repeat (first | (with_reducible first | exact HB.out | apply below_alloc | apply pw_below_drewN | apply below_drew1) | exact HB.out)))); have n3_ := Aside0.mk (below_step (by repeat (first | (with_reducible first | exact HB.out | apply below_alloc | apply pw_below_drewN | apply below_drew1) | exact HB.out)) hb); clear HO_18; clear HO_20; clear HB; have HO_18 := n0_; have HO_20 := n1_; have HO407 := n2_; have HB := n3_; clear n0_ n1_ n2_ n3_; (try clear hb); (try clear hb2); (try clear hk); (try clear hi); (try clear ho0); obtain ⟨Ao83, co83, eo83⟩ := Kd.R_slice HO407.out; subst eo83; obtain ⟨Ao84, co84, eo84⟩ := Kd.R_slice HO_20.out; subst eo84) | (go_at_call 19; (with_reducible refine (partitalaw10_ints.calls kj63 _ _ t404 _ _ x20_63 true _ ?side1 ?side2 ?side3 ?side4 A80.out).mono ?_); (case side1 => repeat (first | exact (Kd.R_reads' HO407.out).2.2 | (with_reducible refine Kd.C_alloc ?_ _) | (with_reducible refine Kd.C_drewN ?_ _) | (with_reducible refine Kd.C_drew ?_))); (case side2 => exact (Kd.R_reads' HO407.out).2.1); (case side3 => repeat (first | exact (Kd.R_reads' HO_20.out).2.2 | (with_reducible refine Kd.C_alloc ?_ _) | (with_reducible refine Kd.C_drewN ?_ _) | (with_reducible refine Kd.C_drew ?_))); (case side4 => exact (Kd.R_reads' HO_20.out).2.1); rintro e w' ⟨rfl, ⟨nd, rfl⟩⟩))
                                                          (try simp only [← hl18_30])
                                                          subst hji27 hji22 hji18 hji14
                                                          go_roundg kj63
                                                          case measure => have := HK1.out; have := HJ30.out; have := HJ46.out; have := HJ52.out; have := HJ61.out; have := HJ63.out; omega
                                                          case rel => exact ⟨(wrap64 (x17_1 + 1)), (by first | rfl | (simp; done) | (simp [*]; done)), H', ⟨by have := HK1.out; have := HJ30.out; have := HJ46.out; have := HJ52.out; have := HJ61.out; have := HJ63.out; omega⟩, ⟨by repeat (first | (with_reducible first | exact HB.out | apply below_alloc | apply pw_below_drewN | apply below_drew1) | exact HB.out)⟩⟩
                                                        · replace c81 := Bool.eq_false_iff.mpr c81
                                                          subst c81
                                                          have H1 : (some false) = some r := by rw [if_neg (show ¬ (false = true) by decide)] at H; exact H
                                                          clear H
                                                          have H := H1
                                                          clear H1
                                                          obtain rfl := Option.some.inj H
                                                          go_wp2_with (first | ((with_reducible refine gate_callee (f := 15) rfl ?_); refine goesL_ (some 122) rfl rfl Try.func15 (by kernel_rfl) rfl #[.slice (some ⟨go17, 0, none⟩) y370.length co17] rfl (by (try simp only [List.map_toArray, List.map_cons, List.map_nil]); first | done | rfl | (simp only [List.length_drop, List.length_take]; rfl)) ?_; (with_reducible refine (turns_Unfold.calls kj63 _ _ y370 t404 t405 _ ?side1 ?side2 A78.out).mono ?_); (case side1 => repeat (first | exact (Kd.S_reads' HO_18.out).2.2 | (with_reducible refine Kd.C_alloc ?_ _) | (with_reducible refine Kd.C_drewN ?_ _) | (with_reducible refine Kd.C_drew ?_))); (case side2 => exact (Kd.S_reads' HO_18.out).2.1); rintro e w85 ⟨v406, rfl, ho0, hb⟩; refine ⟨_, rfl, ?_⟩; have n0_ := Aside0.mk (Kd.S_elder' (by (with_reducible repeat (first | apply Kd.S_alloc | apply Kd.S_drewN | apply Kd.S_drew)); exact HO_18.out) (Kd.R_base ho0) hb); have n1_ := Aside0.mk (Kd.R_elder' (by (with_reducible repeat (first | apply Kd.R_alloc | apply Kd.R_drewN | apply Kd.R_drew)); exact HO_20.out) (Kd.R_base ho0) hb); have n2_ := Aside0.mk (Kd.R_lower (Kd.R_new' ho0 (Kd.R_lt (by (with_reducible repeat (first | apply Kd.R_alloc | apply Kd.R_drewN | apply Kd.R_drew)); exact HO_20.out))) (below_size (by repeat (first | (with_reducible first | exact HB.out | apply below_alloc | apply pw_below_drewN | apply below_drew1) | exact HB.out)))); have n3_ := Aside0.mk (below_step (by repeat (first | (with_reducible first | exact HB.out | apply below_alloc | apply pw_below_drewN | apply below_drew1) | exact HB.out)) hb); clear HO_18; clear HO_20; clear HB; have HO_18 := n0_; have HO_20 := n1_; have HO407 := n2_; have HB := n3_; clear n0_ n1_ n2_ n3_; (try clear hb); (try clear hb2); (try clear hk); (try clear hi); (try clear ho0); obtain ⟨Ao86, co86, eo86⟩ := Kd.R_slice HO407.out; subst eo86; obtain ⟨Ao87, co87, eo87⟩ := Kd.R_slice HO_20.out; subst eo87) | (go_at_call 19; (with_reducible refine (partitalaw10_ints.calls kj63 _ _ t404 _ _ x20_63 false _ ?side1 ?side2 ?side3 ?side4 A80.out).mono ?_); (case side1 => repeat (first | exact (Kd.R_reads' HO407.out).2.2 | (with_reducible refine Kd.C_alloc ?_ _) | (with_reducible refine Kd.C_drewN ?_ _) | (with_reducible refine Kd.C_drew ?_))); (case side2 => exact (Kd.R_reads' HO407.out).2.1); (case side3 => repeat (first | exact (Kd.R_reads' HO_20.out).2.2 | (with_reducible refine Kd.C_alloc ?_ _) | (with_reducible refine Kd.C_drewN ?_ _) | (with_reducible refine Kd.C_drew ?_))); (case side4 => exact (Kd.R_reads' HO_20.out).2.1); rintro e w' ⟨rfl, ⟨nd, rfl⟩⟩))
                                                          go_ret
                                                          exact ⟨by first | rfl | (simp [errW_none, errW_some] <;> rfl) | (simp only [← hji14, ← hji18, ← hji22, ← hji27]; first | rfl | (simp [errW_none, errW_some] <;> rfl)) | (simp [*, errW_none, errW_some] <;> rfl), by repeat (first | (with_reducible first | exact HB.out | apply below_alloc | apply pw_below_drewN | apply below_drew1) | exact HB.out)⟩
                                                      · rw [if_neg c79] at H
                                                        have c79b0 : (t405 == 0) = false := beq_eq_false_iff_ne.mpr c79
                                                        have c79b1 : (t405 != 0) = true := bne_iff_ne.mpr c79
                                                        obtain rfl := Option.some.inj H
                                                        go_wp2_with (first | ((with_reducible refine gate_callee (f := 15) rfl ?_); refine goesL_ (some 122) rfl rfl Try.func15 (by kernel_rfl) rfl #[.slice (some ⟨go17, 0, none⟩) y370.length co17] rfl (by (try simp only [List.map_toArray, List.map_cons, List.map_nil]); first | done | rfl | (simp only [List.length_drop, List.length_take]; rfl)) ?_; (with_reducible refine (turns_Unfold.calls kj63 _ _ y370 t404 t405 _ ?side1 ?side2 A78.out).mono ?_); (case side1 => repeat (first | exact (Kd.S_reads' HO_18.out).2.2 | (with_reducible refine Kd.C_alloc ?_ _) | (with_reducible refine Kd.C_drewN ?_ _) | (with_reducible refine Kd.C_drew ?_))); (case side2 => exact (Kd.S_reads' HO_18.out).2.1); rintro e w88 ⟨v406, rfl, ho0, hb⟩; refine ⟨_, rfl, ?_⟩; have n0_ := Aside0.mk (Kd.S_elder' (by (with_reducible repeat (first | apply Kd.S_alloc | apply Kd.S_drewN | apply Kd.S_drew)); exact HO_18.out) (Kd.R_base ho0) hb); have n1_ := Aside0.mk (Kd.R_elder' (by (with_reducible repeat (first | apply Kd.R_alloc | apply Kd.R_drewN | apply Kd.R_drew)); exact HO_20.out) (Kd.R_base ho0) hb); have n2_ := Aside0.mk (Kd.R_lower (Kd.R_new' ho0 (Kd.R_lt (by (with_reducible repeat (first | apply Kd.R_alloc | apply Kd.R_drewN | apply Kd.R_drew)); exact HO_20.out))) (below_size (by repeat (first | (with_reducible first | exact HB.out | apply below_alloc | apply pw_below_drewN | apply below_drew1) | exact HB.out)))); have n3_ := Aside0.mk (below_step (by repeat (first | (with_reducible first | exact HB.out | apply below_alloc | apply pw_below_drewN | apply below_drew1) | exact HB.out)) hb); clear HO_18; clear HO_20; clear HB; have HO_18 := n0_; have HO_20 := n1_; have HO407 := n2_; have HB := n3_; clear n0_ n1_ n2_ n3_; (try clear hb); (try clear hb2); (try clear hk); (try clear hi); (try clear ho0)))
                                                        go_ret
                                                        exact ⟨by first | rfl | (simp [errW_none, errW_some] <;> rfl) | (simp only [← hji14, ← hji18, ← hji22, ← hji27]; first | rfl | (simp [errW_none, errW_some] <;> rfl)) | (simp [*, errW_none, errW_some] <;> rfl), by repeat (first | (with_reducible first | exact HB.out | apply below_alloc | apply pw_below_drewN | apply below_drew1) | exact HB.out)⟩
                                    · rw [if_neg c46] at H
                                      exact absurd H (by simp)
                              · rw [if_neg c29] at H
                                exact absurd H (by simp)
                            · rw [if_neg c28] at H
                              exact absurd H (by simp)
                          · rw [if_neg c24] at H
                            exact absurd H (by simp)
                        · rw [if_neg c23] at H
                          exact absurd H (by simp)
                      · rw [if_neg c20] at H
                        exact absurd H (by simp)
                    · rw [if_neg c19] at H
                      exact absurd H (by simp)
                  · rw [if_neg c16] at H
                    exact absurd H (by simp)
                · rw [if_neg c15] at H
                  exact absurd H (by simp)
              · rw [if_neg c12] at H
                have c12b0 : decide (x17_1 ≤ 6) = false := decide_eq_false c12
                clear c12
                obtain rfl := Option.some.inj H
                go_wp2
                go_ret
                exact ⟨by first | rfl | (simp [errW_none, errW_some] <;> rfl) | (simp [*, errW_none, errW_some] <;> rfl), by repeat (first | (with_reducible first | exact HB.out | apply below_alloc | apply pw_below_drewN | apply below_drew1) | exact HB.out)⟩
  · replace c7 := Bool.eq_false_iff.mpr c7
    subst c7
    have H1 : (some false) = some r := by rw [if_neg (show ¬ (false = true) by decide)] at H; exact H
    clear H
    have H := H1
    clear H1
    obtain rfl := Option.some.inj H
    go_enter Try.func7, Try.ntmps7
    go_wp2_with (first | ((with_reducible refine gate_callee (f := 11) rfl ?_); refine goesL_ (some 23) rfl rfl Try.func11 (by kernel_rfl) rfl #[] rfl (by (try simp only [List.map_toArray, List.map_cons, List.map_nil]); first | done | rfl | (simp only [List.length_drop, List.length_take]; rfl)) ?_; (with_reducible refine (partitalaw10_examples.calls k  false _ A6.out).mono ?_); rintro e w89 ⟨rfl, hb⟩; refine ⟨_, rfl, ?_⟩; have n0_ := Aside0.mk (below_step (by repeat (first | (with_reducible first | exact HB.out | apply below_alloc | apply pw_below_drewN | apply below_drew1) | exact HB.out)) hb); clear HB; have HB := n0_; clear n0_; (try clear hb); (try clear hb2); (try clear hk); (try clear hi)))
    go_ret
    exact ⟨by first | rfl | (simp [errW_none, errW_some] <;> rfl) | (simp [*, errW_none, errW_some] <;> rfl), by repeat (first | (with_reducible first | exact HB.out | apply below_alloc | apply pw_below_drewN | apply below_drew1) | exact HB.out)⟩

/-- THE ONE PURE STATEMENT of partitalaw10_TurnsJumps: yours. -/
def partitalaw10_TurnsJumps.Pure : Prop := ∀ (a0 : Int) (a1 : Int) (a2 : Int) (a3 : Int) (a4 : Int), (Lit.int .u8 a0).wf = true → (Lit.int .u8 a1).wf = true → (Lit.int .u8 a2).wf = true → (Lit.int .u8 a3).wf = true → (Lit.int .u8 a4).wf = true → ∃ k, partitalaw10_TurnsJumps.f k a0 a1 a2 a3 a4 = some true
theorem partitalaw10_TurnsJumps.walk (P : partitalaw10_TurnsJumps.Pure) (a0 : Int) (a1 : Int) (a2 : Int) (a3 : Int) (a4 : Int) (w : World) (w0 : (Lit.int .u8 a0).wf = true) (w1 : (Lit.int .u8 a1).wf = true) (w2 : (Lit.int .u8 a2).wf = true) (w3 : (Lit.int .u8 a3).wf = true) (w4 : (Lit.int .u8 a4).wf = true) :
    Calls Try.prog 7 #[.int .u8 a0, .int .u8 a1, .int .u8 a2, .int .u8 a3, .int .u8 a4] w fun e w' => e = .returned (.bool true) ∧ Below w.heap.size w w' := by
  obtain ⟨k, h⟩ := P a0 a1 a2 a3 a4 w0 w1 w2 w3 w4
  refine (partitalaw10_TurnsJumps.calls k a0 a1 a2 a3 a4 true w h).mono ?_
  rintro e w' ⟨rfl, hd⟩
  exact ⟨rfl, hd⟩

end Go.Proofs.Ytendmmagjjhfnaa.M
