/- Functions and contracts printed by a program of this session (wip/tools), and texts by hand: Print, Parse, and the plain answers (part 4). -/
import Derived.RangeFuncNested
import Derived.RangeFuncBound
import Derived.RangeFuncCalls
import Derived.RangeFuncLeaves
import Derived.RangeFuncBox
import Derived.Shelf.Abstract
import Derived.Shelf.RegionOpen
import Derived.OwnWalkIn
import Derived.TacticsInMore
import Derived.LoopNIn
import Derived.LoopIn
import Derived.Test.YtdmnknhlibaaoaaDoorCW
import Derived.Test.YtdmnknhlibaaoaaDoorC1
import Derived.Test.YtdmnknhlibaaoaaDoorC2
import Derived.Test.YtdmnknhlibaaoaaDoorC3
namespace Go.Proofs.YtdmnknhlibaaoaaDoor.M
open Go.RowKit Go.Proofs.YtdmnknhlibaaoaaDoorW.PrintWords Go.Proofs.YtdmnknhlibaaoaaDoorW.PrintLast Go.Proofs.YtdmnknhlibaaoaaDoorW.PrintMore
attribute [local go_sem] max2_int min2_int max_two min_two max_three min_three max_four min_four
set_option linter.unusedVariables false
set_option linter.unusedSimpArgs false
def partitalaw16_examples.f (k : Nat)  : Option (Bool) := (partitalaw16_End.f 0).bind fun bt101 => ((some (([(([(⟨bt101.1, bt101.2.1, bt101.2.2.1, bt101.2.2.2.1, bt101.2.2.2.2.1, bt101.2.2.2.2.2⟩ : S39)] : List (S39)))] : List (List (S39))) : List (List (S39)))).bind fun y110 => ((smf_Print.f k 0 96 y110).bind fun bt114 => ((smf_Parse.f k bt114.1).bind fun bt116 => (if 0 ≤ (mn (bt114.1.size : Int) 20) then (if (mn (bt114.1.size : Int) 20) ≤ (bt114.1.size : Int) then ((smf_Parse.f k (bt114.1.extract 0 ((mn (bt114.1.size : Int) 20) : Int).toNat)).bind fun bt124 => ((smf_Check.f k 0 96 ([] : List (List (S39)))).bind fun bt132 => ((partitalaw16_End.f 0).bind fun bt134 => ((smf_Check.f k 1 96 (([(([(⟨bt134.1, bt134.2.1, bt134.2.2.1, bt134.2.2.2.1, bt134.2.2.2.2.1, bt134.2.2.2.2.2⟩ : S39)] : List (S39))), []] : List (List (S39))))).bind fun bt146 => ((partitalaw16_End.f 0).bind fun bt148 => ((smf_Check.f k 0 96 (([(([(⟨0, 3, 0, 0, 0, (⟨#[]⟩ : ByteArray)⟩ : S39), (⟨bt148.1, bt148.2.1, bt148.2.2.1, bt148.2.2.2.1, bt148.2.2.2.2.1, bt148.2.2.2.2.2⟩ : S39)] : List (S39)))] : List (List (S39))))).bind fun bt160 => ((smf_Parse.f k (⟨#[77, 84, 104, 120]⟩ : ByteArray)).bind fun bt162 => (if bt114.2 = 0 then (if bt114.1.toList = ([77, 84, 104, 100, 0, 0, 0, 6, 0, 0, 0, 1, 0, 96, 77, 84, 114, 107, 0, 0, 0, 4, 0, 255, 47, 0] : List UInt8) then (if bt116.2.2.2.2 = 0 then (if bt116.2.2.2.1 = 0 then ((smf_Same.f k 0 96 y110 bt116.1 bt116.2.1 bt116.2.2.1).bind fun t170 => (if t170 = true then (if bt124.2.2.2.1 = 20 then (if bt124.2.2.2.2 = 152 then (if bt132.2 = 160 then (if bt146.1 = 1 then (if bt146.2 = 160 then (if bt160.1 = 0 then (if bt160.2 = 151 then (if bt162.2.2.2.1 = 3 then (some (bt162.2.2.2.2 == 160)) else (none)) else (none)) else (none)) else (none)) else (none)) else (none)) else (none)) else (none)) else (none))) else (none)) else (none)) else (none)) else (none))))))))) else (none)) else (none)))))
theorem partitalaw16_examples.mono : ∀ k, LeO (partitalaw16_examples.f k ) (partitalaw16_examples.f (k + 1) ) := by
  intro  k
  unfold partitalaw16_examples.f
  repeat' first
      | (with_reducible exact smf_Check.mono _ _ _ _)
      | (with_reducible exact smf_Parse.mono _ _)
      | (with_reducible exact smf_Print.mono _ _ _ _)
      | (with_reducible exact smf_Same.mono _ _ _ _ _ _ _)
      | (with_reducible exact LeO.refl _)
      | (with_reducible exact LeO.none _)
      | (with_reducible refine LeO.ite ?_ ?_)
      | (with_reducible refine LeO.bind ?_ (fun _ => ?_))
      | exact smf_Check.mono _ _ _ _
      | exact smf_Parse.mono _ _
      | exact smf_Print.mono _ _ _ _
      | exact smf_Same.mono _ _ _ _ _ _ _
      | exact LeO.none _
      | refine LeO.ite ?_ ?_
      | refine LeO.bind ?_ (fun _ => ?_)
set_option maxHeartbeats 8000000 in
set_option maxRecDepth 100000 in
theorem partitalaw16_examples.calls (k : Nat)  (r : Bool) (w : World) (h : partitalaw16_examples.f k  = some r) :
    Calls Tryd.prog 4 #[] w fun e w' => e = .returned (.bool r) ∧ Below w.heap.size w w' := by
  have hu32 := Tryd.underlying32
  have hu39 := Tryd.underlying39
  have HB := Aside0.mk (Below.refl w.heap.size w)
  have H := h
  unfold partitalaw16_examples.f at H
  clear h
  replace H := Option.bind_eq_some_iff.mp H
  obtain ⟨⟨t101, t102, t103, t104, t105, t106⟩, A10, H⟩ := H
  try dsimp -simprocs only at H
  have A1 := Aside0.mk A10
  clear A10
  obtain ⟨y107, hy107⟩ : ∃ y_ : List (S39), y_ = (([(⟨t101, t102, t103, t104, t105, t106⟩ : S39)] : List (S39))) := ⟨_, rfl⟩
  replace H : ((some (([y107] : List (List (S39))) : List (List (S39)))).bind fun y110 => ((smf_Print.f k 0 96 y110).bind fun bt114 => ((smf_Parse.f k bt114.1).bind fun bt116 => (if 0 ≤ (mn (bt114.1.size : Int) 20) then (if (mn (bt114.1.size : Int) 20) ≤ (bt114.1.size : Int) then ((smf_Parse.f k (bt114.1.extract 0 ((mn (bt114.1.size : Int) 20) : Int).toNat)).bind fun bt124 => ((smf_Check.f k 0 96 ([] : List (List (S39)))).bind fun bt132 => ((partitalaw16_End.f 0).bind fun bt134 => ((smf_Check.f k 1 96 (([(([(⟨bt134.1, bt134.2.1, bt134.2.2.1, bt134.2.2.2.1, bt134.2.2.2.2.1, bt134.2.2.2.2.2⟩ : S39)] : List (S39))), []] : List (List (S39))))).bind fun bt146 => ((partitalaw16_End.f 0).bind fun bt148 => ((smf_Check.f k 0 96 (([(([(⟨0, 3, 0, 0, 0, (⟨#[]⟩ : ByteArray)⟩ : S39), (⟨bt148.1, bt148.2.1, bt148.2.2.1, bt148.2.2.2.1, bt148.2.2.2.2.1, bt148.2.2.2.2.2⟩ : S39)] : List (S39)))] : List (List (S39))))).bind fun bt160 => ((smf_Parse.f k (⟨#[77, 84, 104, 120]⟩ : ByteArray)).bind fun bt162 => (if bt114.2 = 0 then (if bt114.1.toList = ([77, 84, 104, 100, 0, 0, 0, 6, 0, 0, 0, 1, 0, 96, 77, 84, 114, 107, 0, 0, 0, 4, 0, 255, 47, 0] : List UInt8) then (if bt116.2.2.2.2 = 0 then (if bt116.2.2.2.1 = 0 then ((smf_Same.f k 0 96 y110 bt116.1 bt116.2.1 bt116.2.2.1).bind fun t170 => (if t170 = true then (if bt124.2.2.2.1 = 20 then (if bt124.2.2.2.2 = 152 then (if bt132.2 = 160 then (if bt146.1 = 1 then (if bt146.2 = 160 then (if bt160.1 = 0 then (if bt160.2 = 151 then (if bt162.2.2.2.1 = 3 then (some (bt162.2.2.2.2 == 160)) else (none)) else (none)) else (none)) else (none)) else (none)) else (none)) else (none)) else (none)) else (none))) else (none)) else (none)) else (none)) else (none))))))))) else (none)) else (none))))) = some r := by first | (rw [hy107]; with_reducible exact H) | (have H2_ := (Option.bind_some _ _).symm.trans H; rw [hy107]; with_reducible exact H2_) | (have H2_ := (Option.bind_some _ _).symm.trans H; with_reducible exact H2_) | with_reducible exact H | (rw [hy107]; exact H) | exact H
  have Ny107 := Aside0.mk hy107
  clear hy107
  obtain ⟨y110, hy110⟩ : ∃ y_ : List (List (S39)), y_ = (([y107] : List (List (S39)))) := ⟨_, rfl⟩
  replace H : ((smf_Print.f k 0 96 y110).bind fun bt114 => ((smf_Parse.f k bt114.1).bind fun bt116 => (if 0 ≤ (mn (bt114.1.size : Int) 20) then (if (mn (bt114.1.size : Int) 20) ≤ (bt114.1.size : Int) then ((smf_Parse.f k (bt114.1.extract 0 ((mn (bt114.1.size : Int) 20) : Int).toNat)).bind fun bt124 => ((smf_Check.f k 0 96 ([] : List (List (S39)))).bind fun bt132 => ((partitalaw16_End.f 0).bind fun bt134 => ((smf_Check.f k 1 96 (([(([(⟨bt134.1, bt134.2.1, bt134.2.2.1, bt134.2.2.2.1, bt134.2.2.2.2.1, bt134.2.2.2.2.2⟩ : S39)] : List (S39))), []] : List (List (S39))))).bind fun bt146 => ((partitalaw16_End.f 0).bind fun bt148 => ((smf_Check.f k 0 96 (([(([(⟨0, 3, 0, 0, 0, (⟨#[]⟩ : ByteArray)⟩ : S39), (⟨bt148.1, bt148.2.1, bt148.2.2.1, bt148.2.2.2.1, bt148.2.2.2.2.1, bt148.2.2.2.2.2⟩ : S39)] : List (S39)))] : List (List (S39))))).bind fun bt160 => ((smf_Parse.f k (⟨#[77, 84, 104, 120]⟩ : ByteArray)).bind fun bt162 => (if bt114.2 = 0 then (if bt114.1.toList = ([77, 84, 104, 100, 0, 0, 0, 6, 0, 0, 0, 1, 0, 96, 77, 84, 114, 107, 0, 0, 0, 4, 0, 255, 47, 0] : List UInt8) then (if bt116.2.2.2.2 = 0 then (if bt116.2.2.2.1 = 0 then ((smf_Same.f k 0 96 y110 bt116.1 bt116.2.1 bt116.2.2.1).bind fun t170 => (if t170 = true then (if bt124.2.2.2.1 = 20 then (if bt124.2.2.2.2 = 152 then (if bt132.2 = 160 then (if bt146.1 = 1 then (if bt146.2 = 160 then (if bt160.1 = 0 then (if bt160.2 = 151 then (if bt162.2.2.2.1 = 3 then (some (bt162.2.2.2.2 == 160)) else (none)) else (none)) else (none)) else (none)) else (none)) else (none)) else (none)) else (none)) else (none))) else (none)) else (none)) else (none)) else (none))))))))) else (none)) else (none)))) = some r := by first | (rw [hy110]; with_reducible exact H) | (have H2_ := (Option.bind_some _ _).symm.trans H; rw [hy110]; with_reducible exact H2_) | (have H2_ := (Option.bind_some _ _).symm.trans H; with_reducible exact H2_) | with_reducible exact H | (rw [hy110]; exact H) | exact H
  have Ny110 := Aside0.mk hy110
  clear hy110
  replace H := Option.bind_eq_some_iff.mp H
  obtain ⟨⟨t114, t115⟩, A20, H⟩ := H
  try dsimp -simprocs only at H
  have A2 := Aside0.mk A20
  clear A20
  replace H := Option.bind_eq_some_iff.mp H
  obtain ⟨⟨t116, t117, t118, t121, t122⟩, A30, H⟩ := H
  try dsimp -simprocs only at H
  have A3 := Aside0.mk A30
  clear A30
  obtain ⟨ji4, hji4⟩ : ∃ j_ : Int, (mn (t114.size : Int) 20) = j_ := ⟨_, rfl⟩
  replace H : (if 0 ≤ (ji4) then (if (ji4) ≤ (t114.size : Int) then ((smf_Parse.f k (t114.extract 0 ((ji4) : Int).toNat)).bind fun bt124 => ((smf_Check.f k 0 96 ([] : List (List (S39)))).bind fun bt132 => ((partitalaw16_End.f 0).bind fun bt134 => ((smf_Check.f k 1 96 (([(([(⟨bt134.1, bt134.2.1, bt134.2.2.1, bt134.2.2.2.1, bt134.2.2.2.2.1, bt134.2.2.2.2.2⟩ : S39)] : List (S39))), []] : List (List (S39))))).bind fun bt146 => ((partitalaw16_End.f 0).bind fun bt148 => ((smf_Check.f k 0 96 (([(([(⟨0, 3, 0, 0, 0, (⟨#[]⟩ : ByteArray)⟩ : S39), (⟨bt148.1, bt148.2.1, bt148.2.2.1, bt148.2.2.2.1, bt148.2.2.2.2.1, bt148.2.2.2.2.2⟩ : S39)] : List (S39)))] : List (List (S39))))).bind fun bt160 => ((smf_Parse.f k (⟨#[77, 84, 104, 120]⟩ : ByteArray)).bind fun bt162 => (if t115 = 0 then (if t114.toList = ([77, 84, 104, 100, 0, 0, 0, 6, 0, 0, 0, 1, 0, 96, 77, 84, 114, 107, 0, 0, 0, 4, 0, 255, 47, 0] : List UInt8) then (if t122 = 0 then (if t121 = 0 then ((smf_Same.f k 0 96 y110 t116 t117 t118).bind fun t170 => (if t170 = true then (if bt124.2.2.2.1 = 20 then (if bt124.2.2.2.2 = 152 then (if bt132.2 = 160 then (if bt146.1 = 1 then (if bt146.2 = 160 then (if bt160.1 = 0 then (if bt160.2 = 151 then (if bt162.2.2.2.1 = 3 then (some (bt162.2.2.2.2 == 160)) else (none)) else (none)) else (none)) else (none)) else (none)) else (none)) else (none)) else (none)) else (none))) else (none)) else (none)) else (none)) else (none))))))))) else (none)) else (none)) = some r := by first | (rw [hji4] at H; exact H) | (simp only [hji4] at H ⊢; exact H)
  (try rw [hji4] at A1)
  (try rw [hji4] at A2)
  (try rw [hji4] at A3)
  (try (have hji4h : ji4 ≤ 20 := by (rw [← hji4]; unfold mn; (repeat' split) <;> omega)))
  (try (have hji4g : ji4 ≤ 64 := by omega))
  (try (have hji4l : 0 ≤ ji4 := by (rw [← hji4]; unfold mn; (repeat' split) <;> omega)))
  (try (have hji4m : 0 ≤ ji4 := by omega))
  have hji4_ : (if 20 < (t114.size : Int) then 20 else (t114.size : Int)) = ji4 := hji4
  by_cases c5 : 0 ≤ (ji4)
  rotate_left
  · rw [if_neg c5] at H
    exact absurd H (by simp)
  rw [if_pos c5] at H
  have c5b0 := eq_true c5
  have c5b1 : decide (0 ≤ (ji4)) = true := decide_eq_true c5
  clear c5
  by_cases c6 : (ji4) ≤ (t114.size : Int)
  rotate_left
  · rw [if_neg c6] at H
    exact absurd H (by simp)
  rw [if_pos c6] at H
  have c6b0 := eq_true c6
  have c6b1 : decide ((ji4) ≤ (t114.size : Int)) = true := decide_eq_true c6
  clear c6
  replace H := Option.bind_eq_some_iff.mp H
  obtain ⟨⟨t124, t125, t126, t129, t130⟩, A70, H⟩ := H
  try dsimp -simprocs only at H
  have A7 := Aside0.mk A70
  clear A70
  replace H := Option.bind_eq_some_iff.mp H
  obtain ⟨⟨t132, t133⟩, A80, H⟩ := H
  try dsimp -simprocs only at H
  have A8 := Aside0.mk A80
  clear A80
  replace H := Option.bind_eq_some_iff.mp H
  obtain ⟨⟨t134, t135, t136, t137, t138, t139⟩, A90, H⟩ := H
  try dsimp -simprocs only at H
  have A9 := Aside0.mk A90
  clear A90
  obtain ⟨y140, hy140⟩ : ∃ y_ : List (S39), y_ = (([(⟨t134, t135, t136, t137, t138, t139⟩ : S39)] : List (S39))) := ⟨_, rfl⟩
  replace H : ((smf_Check.f k 1 96 (([y140, []] : List (List (S39))))).bind fun bt146 => ((partitalaw16_End.f 0).bind fun bt148 => ((smf_Check.f k 0 96 (([(([(⟨0, 3, 0, 0, 0, (⟨#[]⟩ : ByteArray)⟩ : S39), (⟨bt148.1, bt148.2.1, bt148.2.2.1, bt148.2.2.2.1, bt148.2.2.2.2.1, bt148.2.2.2.2.2⟩ : S39)] : List (S39)))] : List (List (S39))))).bind fun bt160 => ((smf_Parse.f k (⟨#[77, 84, 104, 120]⟩ : ByteArray)).bind fun bt162 => (if t115 = 0 then (if t114.toList = ([77, 84, 104, 100, 0, 0, 0, 6, 0, 0, 0, 1, 0, 96, 77, 84, 114, 107, 0, 0, 0, 4, 0, 255, 47, 0] : List UInt8) then (if t122 = 0 then (if t121 = 0 then ((smf_Same.f k 0 96 y110 t116 t117 t118).bind fun t170 => (if t170 = true then (if t129 = 20 then (if t130 = 152 then (if t133 = 160 then (if bt146.1 = 1 then (if bt146.2 = 160 then (if bt160.1 = 0 then (if bt160.2 = 151 then (if bt162.2.2.2.1 = 3 then (some (bt162.2.2.2.2 == 160)) else (none)) else (none)) else (none)) else (none)) else (none)) else (none)) else (none)) else (none)) else (none))) else (none)) else (none)) else (none)) else (none)))))) = some r := by first | (rw [hy140]; with_reducible exact H) | (have H2_ := (Option.bind_some _ _).symm.trans H; rw [hy140]; with_reducible exact H2_) | (have H2_ := (Option.bind_some _ _).symm.trans H; with_reducible exact H2_) | with_reducible exact H | (rw [hy140]; exact H) | exact H
  have Ny140 := Aside0.mk hy140
  clear hy140
  obtain ⟨y143, hy143⟩ : ∃ y_ : List (List (S39)), y_ = (([y140, []] : List (List (S39)))) := ⟨_, rfl⟩
  replace H : ((smf_Check.f k 1 96 y143).bind fun bt146 => ((partitalaw16_End.f 0).bind fun bt148 => ((smf_Check.f k 0 96 (([(([(⟨0, 3, 0, 0, 0, (⟨#[]⟩ : ByteArray)⟩ : S39), (⟨bt148.1, bt148.2.1, bt148.2.2.1, bt148.2.2.2.1, bt148.2.2.2.2.1, bt148.2.2.2.2.2⟩ : S39)] : List (S39)))] : List (List (S39))))).bind fun bt160 => ((smf_Parse.f k (⟨#[77, 84, 104, 120]⟩ : ByteArray)).bind fun bt162 => (if t115 = 0 then (if t114.toList = ([77, 84, 104, 100, 0, 0, 0, 6, 0, 0, 0, 1, 0, 96, 77, 84, 114, 107, 0, 0, 0, 4, 0, 255, 47, 0] : List UInt8) then (if t122 = 0 then (if t121 = 0 then ((smf_Same.f k 0 96 y110 t116 t117 t118).bind fun t170 => (if t170 = true then (if t129 = 20 then (if t130 = 152 then (if t133 = 160 then (if bt146.1 = 1 then (if bt146.2 = 160 then (if bt160.1 = 0 then (if bt160.2 = 151 then (if bt162.2.2.2.1 = 3 then (some (bt162.2.2.2.2 == 160)) else (none)) else (none)) else (none)) else (none)) else (none)) else (none)) else (none)) else (none)) else (none))) else (none)) else (none)) else (none)) else (none)))))) = some r := by first | (rw [hy143]; with_reducible exact H) | (have H2_ := (Option.bind_some _ _).symm.trans H; rw [hy143]; with_reducible exact H2_) | (have H2_ := (Option.bind_some _ _).symm.trans H; with_reducible exact H2_) | with_reducible exact H | (rw [hy143]; exact H) | exact H
  have Ny143 := Aside0.mk hy143
  clear hy143
  replace H := Option.bind_eq_some_iff.mp H
  obtain ⟨⟨t146, t147⟩, A100, H⟩ := H
  try dsimp -simprocs only at H
  have A10 := Aside0.mk A100
  clear A100
  replace H := Option.bind_eq_some_iff.mp H
  obtain ⟨⟨t148, t149, t150, t151, t152, t153⟩, A110, H⟩ := H
  try dsimp -simprocs only at H
  have A11 := Aside0.mk A110
  clear A110
  obtain ⟨y154, hy154⟩ : ∃ y_ : List (S39), y_ = (([(⟨0, 3, 0, 0, 0, (⟨#[]⟩ : ByteArray)⟩ : S39), (⟨t148, t149, t150, t151, t152, t153⟩ : S39)] : List (S39))) := ⟨_, rfl⟩
  replace H : ((smf_Check.f k 0 96 (([y154] : List (List (S39))))).bind fun bt160 => ((smf_Parse.f k (⟨#[77, 84, 104, 120]⟩ : ByteArray)).bind fun bt162 => (if t115 = 0 then (if t114.toList = ([77, 84, 104, 100, 0, 0, 0, 6, 0, 0, 0, 1, 0, 96, 77, 84, 114, 107, 0, 0, 0, 4, 0, 255, 47, 0] : List UInt8) then (if t122 = 0 then (if t121 = 0 then ((smf_Same.f k 0 96 y110 t116 t117 t118).bind fun t170 => (if t170 = true then (if t129 = 20 then (if t130 = 152 then (if t133 = 160 then (if t146 = 1 then (if t147 = 160 then (if bt160.1 = 0 then (if bt160.2 = 151 then (if bt162.2.2.2.1 = 3 then (some (bt162.2.2.2.2 == 160)) else (none)) else (none)) else (none)) else (none)) else (none)) else (none)) else (none)) else (none)) else (none))) else (none)) else (none)) else (none)) else (none)))) = some r := by first | (rw [hy154]; with_reducible exact H) | (have H2_ := (Option.bind_some _ _).symm.trans H; rw [hy154]; with_reducible exact H2_) | (have H2_ := (Option.bind_some _ _).symm.trans H; with_reducible exact H2_) | with_reducible exact H | (rw [hy154]; exact H) | exact H
  have Ny154 := Aside0.mk hy154
  clear hy154
  obtain ⟨y157, hy157⟩ : ∃ y_ : List (List (S39)), y_ = (([y154] : List (List (S39)))) := ⟨_, rfl⟩
  replace H : ((smf_Check.f k 0 96 y157).bind fun bt160 => ((smf_Parse.f k (⟨#[77, 84, 104, 120]⟩ : ByteArray)).bind fun bt162 => (if t115 = 0 then (if t114.toList = ([77, 84, 104, 100, 0, 0, 0, 6, 0, 0, 0, 1, 0, 96, 77, 84, 114, 107, 0, 0, 0, 4, 0, 255, 47, 0] : List UInt8) then (if t122 = 0 then (if t121 = 0 then ((smf_Same.f k 0 96 y110 t116 t117 t118).bind fun t170 => (if t170 = true then (if t129 = 20 then (if t130 = 152 then (if t133 = 160 then (if t146 = 1 then (if t147 = 160 then (if bt160.1 = 0 then (if bt160.2 = 151 then (if bt162.2.2.2.1 = 3 then (some (bt162.2.2.2.2 == 160)) else (none)) else (none)) else (none)) else (none)) else (none)) else (none)) else (none)) else (none)) else (none))) else (none)) else (none)) else (none)) else (none)))) = some r := by first | (rw [hy157]; with_reducible exact H) | (have H2_ := (Option.bind_some _ _).symm.trans H; rw [hy157]; with_reducible exact H2_) | (have H2_ := (Option.bind_some _ _).symm.trans H; with_reducible exact H2_) | with_reducible exact H | (rw [hy157]; exact H) | exact H
  have Ny157 := Aside0.mk hy157
  clear hy157
  replace H := Option.bind_eq_some_iff.mp H
  obtain ⟨⟨t160, t161⟩, A120, H⟩ := H
  try dsimp -simprocs only at H
  have A12 := Aside0.mk A120
  clear A120
  replace H := Option.bind_eq_some_iff.mp H
  obtain ⟨⟨t162, t163, t164, t167, t168⟩, A130, H⟩ := H
  try dsimp -simprocs only at H
  have A13 := Aside0.mk A130
  clear A130
  by_cases c14 : t115 = 0
  rotate_left
  · rw [if_neg c14] at H
    exact absurd H (by simp)
  rw [if_pos c14] at H
  have c14b0 : (t115 == 0) = true := beq_iff_eq.mpr c14
  have c14b1 : (t115 != 0) = false := bne_eq_false_iff_eq.mpr c14
  clear c14
  by_cases c15 : t114.toList = ([77, 84, 104, 100, 0, 0, 0, 6, 0, 0, 0, 1, 0, 96, 77, 84, 114, 107, 0, 0, 0, 4, 0, 255, 47, 0] : List UInt8)
  rotate_left
  · rw [if_neg c15] at H
    exact absurd H (by simp)
  rw [if_pos c15] at H
  have c15b0 : (t114.toList == ([77, 84, 104, 100, 0, 0, 0, 6, 0, 0, 0, 1, 0, 96, 77, 84, 114, 107, 0, 0, 0, 4, 0, 255, 47, 0] : List UInt8)) = true := beq_iff_eq.mpr c15
  have c15b1 : (t114.toList != ([77, 84, 104, 100, 0, 0, 0, 6, 0, 0, 0, 1, 0, 96, 77, 84, 114, 107, 0, 0, 0, 4, 0, 255, 47, 0] : List UInt8)) = false := bne_eq_false_iff_eq.mpr c15
  clear c15
  by_cases c16 : t122 = 0
  rotate_left
  · rw [if_neg c16] at H
    exact absurd H (by simp)
  rw [if_pos c16] at H
  have c16b0 : (t122 == 0) = true := beq_iff_eq.mpr c16
  have c16b1 : (t122 != 0) = false := bne_eq_false_iff_eq.mpr c16
  clear c16
  by_cases c17 : t121 = 0
  rotate_left
  · rw [if_neg c17] at H
    exact absurd H (by simp)
  rw [if_pos c17] at H
  have c17b0 : (t121 == 0) = true := beq_iff_eq.mpr c17
  have c17b1 : (t121 != 0) = false := bne_eq_false_iff_eq.mpr c17
  clear c17
  replace H := Option.bind_eq_some_iff.mp H
  obtain ⟨t170, A180, H⟩ := H
  try dsimp -simprocs only at H
  have A18 := Aside0.mk A180
  clear A180
  by_cases c19 : t170 = true
  rotate_left
  · replace c19 := Bool.eq_false_iff.mpr c19
    subst c19
    have H1 : (none) = some r := by rw [if_neg (show ¬ (false = true) by decide)] at H; exact H
    clear H
    have H := H1
    clear H1
    exact absurd H (by simp)
  subst c19
  have H1 : (if t129 = 20 then (if t130 = 152 then (if t133 = 160 then (if t146 = 1 then (if t147 = 160 then (if t160 = 0 then (if t161 = 151 then (if t167 = 3 then (some (t168 == 160)) else (none)) else (none)) else (none)) else (none)) else (none)) else (none)) else (none)) else (none)) = some r := by rw [if_pos rfl] at H; exact H
  clear H
  have H := H1
  clear H1
  by_cases c20 : t129 = 20
  rotate_left
  · rw [if_neg c20] at H
    exact absurd H (by simp)
  rw [if_pos c20] at H
  have c20b0 : (t129 == 20) = true := beq_iff_eq.mpr c20
  have c20b1 : (t129 != 20) = false := bne_eq_false_iff_eq.mpr c20
  clear c20
  by_cases c21 : t130 = 152
  rotate_left
  · rw [if_neg c21] at H
    exact absurd H (by simp)
  rw [if_pos c21] at H
  have c21b0 : (t130 == 152) = true := beq_iff_eq.mpr c21
  have c21b1 : (t130 != 152) = false := bne_eq_false_iff_eq.mpr c21
  clear c21
  by_cases c22 : t133 = 160
  rotate_left
  · rw [if_neg c22] at H
    exact absurd H (by simp)
  rw [if_pos c22] at H
  have c22b0 : (t133 == 160) = true := beq_iff_eq.mpr c22
  have c22b1 : (t133 != 160) = false := bne_eq_false_iff_eq.mpr c22
  clear c22
  by_cases c23 : t146 = 1
  rotate_left
  · rw [if_neg c23] at H
    exact absurd H (by simp)
  rw [if_pos c23] at H
  have c23b0 : (t146 == 1) = true := beq_iff_eq.mpr c23
  have c23b1 : (t146 != 1) = false := bne_eq_false_iff_eq.mpr c23
  clear c23
  by_cases c24 : t147 = 160
  rotate_left
  · rw [if_neg c24] at H
    exact absurd H (by simp)
  rw [if_pos c24] at H
  have c24b0 : (t147 == 160) = true := beq_iff_eq.mpr c24
  have c24b1 : (t147 != 160) = false := bne_eq_false_iff_eq.mpr c24
  clear c24
  by_cases c25 : t160 = 0
  rotate_left
  · rw [if_neg c25] at H
    exact absurd H (by simp)
  rw [if_pos c25] at H
  have c25b0 : (t160 == 0) = true := beq_iff_eq.mpr c25
  have c25b1 : (t160 != 0) = false := bne_eq_false_iff_eq.mpr c25
  clear c25
  by_cases c26 : t161 = 151
  rotate_left
  · rw [if_neg c26] at H
    exact absurd H (by simp)
  rw [if_pos c26] at H
  have c26b0 : (t161 == 151) = true := beq_iff_eq.mpr c26
  have c26b1 : (t161 != 151) = false := bne_eq_false_iff_eq.mpr c26
  clear c26
  by_cases c27 : t167 = 3
  rotate_left
  · rw [if_neg c27] at H
    exact absurd H (by simp)
  rw [if_pos c27] at H
  have c27b0 : (t167 == 3) = true := beq_iff_eq.mpr c27
  have c27b1 : (t167 != 3) = false := bne_eq_false_iff_eq.mpr c27
  clear c27
  obtain rfl := Option.some.inj H
  go_enter Tryd.func4, Tryd.ntmps4
  go_wp2_with (first | ((with_reducible refine gate_callee (f := 8) rfl ?_); refine goesL_ (some 19) rfl rfl Tryd.func8 (by kernel_rfl) rfl #[.int .i64 0] rfl qq0 ?_; (with_reducible refine (partitalaw16_End.calls 0 t101 t102 t103 t104 t105 t106 _ A1.out).mono ?_); rintro e w28 ⟨rfl, hb⟩; refine ⟨_, rfl, ?_⟩; replace HB := Aside0.mk (below_step (qB HB.out) hb); (try clear hb); (try clear hb2); (try clear hk); (try clear hi)) | ((with_reducible refine gate_dst (N := 20) rfl ?_); refine Kd.R_lit k39 _ 39 ?hg (N := 20) ?hd (xs := ([(⟨t101, t102, t103, t104, t105, t106⟩ : S39)] : List (S39))) (inner := [.int .i64 t101, .int .i64 t102, .int .i64 t103, .int .i64 t104, .int .i64 t105, .string t106]) (ok := fun _ => True) (okp := fun _ => True) ?hr ?hp (fun _ hk => hk) trivial (Below.refl _ _) (Nat.le_refl _) (by simp) ?_; (case hd => rfl); (case hg => rfl); (case hr => exact qq8); (case hp => exact (Reps.c6 (show Kd.M k39 _ _ _ (⟨t101, t102, t103, t104, t105, t106⟩ : S39) [.int .i64 t101, .int .i64 t102, .int .i64 t103, .int .i64 t104, .int .i64 t105, .string t106] from (k39_mkM _ _ _ (⟨t101, t102, t103, t104, t105, t106⟩ : S39) )) (Reps.none _ _))); intro v108 w29 ho30 hb hg_ hnew_; clear hg_ hnew_; (first | rw [← Ny107.out] at ho30 | (simp only [Int.reduceToNat] at ho30; rw [← Ny107.out] at ho30)); have HO109 := Aside0.mk (Kd.R_lower ho30 (below_size (qB HB.out))); replace HB := Aside0.mk (below_step (qB HB.out) hb); clear hb ho30; obtain ⟨Ao31, co31, eo31⟩ := Kd.R_slice HO109.out; subst eo31) | ((with_reducible refine gate_dst (N := 21) rfl ?_); refine Kd.N_lit (Kd.slice 39 k39) _ 33 ?hg (N' := 21) ?hd (xs := ([y107] : List (List (S39)))) (inner := [.slice Ao31 y107.length co31]) (ok := (fun _ => True)) (okp := (fun _ => True)) ?hr ?hp (fun _ hk => hk) ((show ∀ k_, w29.heap.size ≤ k_ → (fun _ => True) k_ from fun k_ hk => trivial) _ (Nat.le_refl _)) (Below.refl _ _) (Nat.le_refl _) (by simp) ?_; (case hd => rfl); (case hg => rfl); (case hr => exact qq8); (case hp => exact (Reps.one (show Kd.FK (Kd.slice 39 k39) _ _ y107 [.slice Ao31 y107.length co31] from (Kd.FK_slice_mk (Kd.R_reads' (Kd.R_mono (ok' := (fun _ => True)) (HO109.out) (fun k_ hk => trivial))).2.1 (Kd.R_F (Kd.R_mono (ok' := (fun _ => True)) (HO109.out) (fun k_ hk => trivial))))) (Reps.none _ _))); intro v111 w32 ho33 hb hg_ hnew_; clear hg_ hnew_; (first | rw [← Ny110.out] at ho33 | (simp only [Int.reduceToNat] at ho33; rw [← Ny110.out] at ho33)); have HO112 := Aside0.mk (Kd.N_lower ho33 (below_size (qB HB.out))); replace HB := Aside0.mk (below_step (qB HB.out) hb); clear HO109; clear hb ho33; obtain ⟨Ao34, co34, eo34⟩ := Kd.N_slice HO112.out; subst eo34) | ((with_reducible refine gate_dst (N := 1) rfl ?_); refine box_event ?hg (N := 1) ?hd (cs := #[.int .i64 0, .int .i64 0, .slice none 0 0]) (t := 32) ?hr ?_; (case hd => rfl); (case hg => rfl); (case hr => exact qq8); intro gb113 hg w35 hbox hb; replace HO112 := Aside0.mk (Kd.N_below (Kd.N_elderB (qN HO112.out) gb113 (Nat.le_of_eq hg.symm)) hb); have BK113 := Aside0.mk (hbox); have GW113 := Aside0.mk ((qq7 : w.heap.size ≤ gb113)); have GE113 := Aside0.mk ((qq7 : w.heap.size ≤ gb113)); replace HB := Aside0.mk (below_step (qB HB.out) hb); clear hb hbox hg; obtain ⟨hcz36_0, hcz36_1, hcz36_2, hfz36_0, hfz36_1, hfz36_2⟩ := blk3 BK113.out) | ((with_reducible refine gate_callee (f := 9) rfl ?_); refine goesL_ (some 25) rfl rfl Tryd.func9 (by kernel_rfl) rfl #[.agg #[.int .i64 0, .int .i64 96, .slice Ao34 y110.length co34]] rfl qq0 ?_; (with_reducible refine (smf_Print.calls k 0 96 _ _ y110 t114 t115 _ ?side1 ?side2 A2.out).mono ?_); (case side1 => refine (Kd.N_reads' (e := 33) (base := w.heap.size) (ok := fun k_ => (True ∧ k_ ≠ gb113)) (n := y110.length) (c := co34) ?_).2.2; exact qqk); (case side2 => exact (Kd.N_reads' HO112.out).2.1); rintro e w37 ⟨rfl, hb⟩; refine ⟨_, rfl, ?_⟩; replace HO112 := Aside0.mk (Kd.N_below qqk hb); replace BK113 := Aside0.mk (blk_below (g := gb113) (o := .cells #[.int .i64 0, .int .i64 96, .slice Ao34 y110.length co34] 32 (0, 0)) (by refine bq ?_; refine blk_put (cs := #[.int .i64 0, .int .i64 96, .slice none 0 0]) ?_ 2 _ rfl; refine bq ?_; refine blk_put (cs := #[.int .i64 0, .int .i64 0, .slice none 0 0]) ?_ 1 _ rfl; refine bq ?_; refine blk_put (cs := #[.int .i64 0, .int .i64 0, .slice none 0 0]) ?_ 0 _ rfl; exact bq BK113.out) hb); replace HB := Aside0.mk (below_step (qS1 GE113 HB.out) hb); (try clear hb); (try clear hb2); (try clear hk); (try clear hi)) | ((with_reducible refine gate_callee (f := 10) rfl ?_); refine goesL_ (some 30) rfl rfl Tryd.func10 (by kernel_rfl) rfl #[.string t114] rfl qq0 ?_; (with_reducible refine (smf_Parse.calls k t114 t116 t117 t118 t121 t122 _ A3.out).mono ?_); rintro e w38 ⟨v119, rfl, ho0, hb⟩; refine ⟨_, rfl, ?_⟩; have HO120 := Aside0.mk (Kd.N_lower (Kd.N_mono (ok' := fun k_ => some k_ ≠ (.slice Ao34 y110.length co34 : Value).ownBlock ∧ k_ ≠ gb113) (Kd.S_N (Kd.S_bound ho0)) (fun k_ hk_ => ⟨(Kd.fresh' (Kd.N_lt (qN HO112.out)) k_ hk_.2.1), (Kd.freshB (bq BK113.out) k_ hk_.2.1)⟩)) (below_size (qS1 GE113 HB.out))); replace HO112 := Aside0.mk (Kd.N_elder' (qN HO112.out) qqh hb); replace BK113 := Aside0.mk (blk_below (bq BK113.out) hb); replace HB := Aside0.mk (below_step (qS1 GE113 HB.out) hb); (try clear hb); (try clear hb2); (try clear hk); (try clear hi); (try clear ho0)) | ((with_reducible refine gate_dst (N := 4) rfl ?_); refine box_event ?hg (N := 4) ?hd (cs := #[.int .i64 0, .int .i64 0, .slice none 0 0]) (t := 32) ?hr ?_; (case hd => rfl); (case hg => rfl); (case hr => exact qq8); intro gb123 hg w39 hbox hb; replace HO112 := Aside0.mk (Kd.N_below (Kd.N_elderB (qN HO112.out) gb123 (Nat.le_of_eq hg.symm)) hb); replace HO120 := Aside0.mk (Kd.N_below (Kd.N_elderB (qN HO120.out) gb123 (Nat.le_of_eq hg.symm)) hb); have BK123 := Aside0.mk (hbox); have GW123 := Aside0.mk ((by rw [hg]; exact (below_size (qS1 GE113 HB.out)) : w.heap.size ≤ gb123)); have GE123 := Aside0.mk ((by rw [hg]; exact (below_size (qS1 GE113 HB.out)) : w.heap.size ≤ gb123)); replace HB := Aside0.mk (below_step (qS1 GE113 HB.out) hb); have NB113_123 := Aside0.mk ((by rw [hg]; exact Nat.ne_of_lt (blk_lt (bq BK113.out)) : gb113 ≠ gb123)); have NB123_113 := Aside0.mk ((by rw [hg]; exact Nat.ne_of_gt (blk_lt (bq BK113.out)) : gb123 ≠ gb113)); replace BK113 := Aside0.mk (blk_below (bq BK113.out) hb); clear hb hbox hg; have hnb40 := NB123_113.out; have hnc40 := NB113_123.out; obtain ⟨hcz41_0, hcz41_1, hcz41_2, hfz41_0, hfz41_1, hfz41_2⟩ := blk3 BK123.out; obtain ⟨Ao42, co42, eo42⟩ := Kd.N_slice HO120.out; subst eo42) | ((with_reducible refine gate_callee (f := 10) rfl ?_); refine goesL_ (some 40) rfl rfl Tryd.func10 (by kernel_rfl) rfl #[.string (t114.extract 0 ((ji4) : Int).toNat)] rfl (by (try simp only [List.map_toArray, List.map_cons, List.map_nil]); first | done | (simp only [hji4]; rfl) | rfl | (simp only [List.length_drop, List.length_take]; rfl)) ?_; (with_reducible refine (smf_Parse.calls k (t114.extract 0 ((ji4) : Int).toNat) t124 t125 t126 t129 t130 _ A7.out).mono ?_); rintro e w43 ⟨v127, rfl, ho0, hb⟩; refine ⟨_, rfl, ?_⟩; have HO128 := Aside0.mk (Kd.N_lower (Kd.N_mono (ok' := fun k_ => some k_ ≠ (.slice Ao34 y110.length co34 : Value).ownBlock ∧ some k_ ≠ (.slice Ao42 t118.length co42 : Value).ownBlock ∧ k_ ≠ gb113 ∧ k_ ≠ gb123) (Kd.S_N (Kd.S_bound ho0)) (fun k_ hk_ => ⟨(Kd.fresh' (Kd.N_lt qqj) k_ hk_.2.1), (Kd.fresh' (Kd.N_lt qqi) k_ hk_.2.1), (Kd.freshB (g := gb113) (o := .cells #[.int .i64 0, .int .i64 96, .slice Ao34 y110.length co34] 32 (0, 0)) (by refine bq ?_; refine blk_far ?_ NB113_123.out _; refine bq ?_; refine blk_far ?_ NB113_123.out _; refine bq ?_; refine blk_far ?_ NB113_123.out _; exact bq BK113.out) k_ hk_.2.1), (Kd.freshB (g := gb123) (o := .cells #[.int .i64 t116, .int .i64 t117, .slice Ao42 t118.length co42] 32 (0, 0)) (by refine bq ?_; refine blk_put (cs := #[.int .i64 t116, .int .i64 t117, .slice none 0 0]) ?_ 2 _ rfl; refine bq ?_; refine blk_put (cs := #[.int .i64 t116, .int .i64 0, .slice none 0 0]) ?_ 1 _ rfl; refine bq ?_; refine blk_put (cs := #[.int .i64 0, .int .i64 0, .slice none 0 0]) ?_ 0 _ rfl; exact bq BK123.out) k_ hk_.2.1)⟩)) (below_size (qS2 GE113 GE123 HB.out))); replace HO112 := Aside0.mk (Kd.N_elder' qqj qqh hb); replace HO120 := Aside0.mk (Kd.N_elder' qqi qqh hb); replace BK113 := Aside0.mk (blk_below (g := gb113) (o := .cells #[.int .i64 0, .int .i64 96, .slice Ao34 y110.length co34] 32 (0, 0)) (by refine bq ?_; refine blk_far ?_ NB113_123.out _; refine bq ?_; refine blk_far ?_ NB113_123.out _; refine bq ?_; refine blk_far ?_ NB113_123.out _; exact bq BK113.out) hb); replace BK123 := Aside0.mk (blk_below (g := gb123) (o := .cells #[.int .i64 t116, .int .i64 t117, .slice Ao42 t118.length co42] 32 (0, 0)) (by refine bq ?_; refine blk_put (cs := #[.int .i64 t116, .int .i64 t117, .slice none 0 0]) ?_ 2 _ rfl; refine bq ?_; refine blk_put (cs := #[.int .i64 t116, .int .i64 0, .slice none 0 0]) ?_ 1 _ rfl; refine bq ?_; refine blk_put (cs := #[.int .i64 0, .int .i64 0, .slice none 0 0]) ?_ 0 _ rfl; exact bq BK123.out) hb); replace HB := Aside0.mk (below_step (qS2 GE113 GE123 HB.out) hb); (try clear hb); (try clear hb2); (try clear hk); (try clear hi); (try clear ho0)) | ((with_reducible refine gate_dst (N := 7) rfl ?_); refine box_event ?hg (N := 7) ?hd (cs := #[.int .i64 0, .int .i64 0, .slice none 0 0]) (t := 32) ?hr ?_; (case hd => rfl); (case hg => rfl); (case hr => exact qq8); intro gb131 hg w44 hbox hb; replace HO112 := Aside0.mk (Kd.N_below (Kd.N_elderB (qN HO112.out) gb131 (Nat.le_of_eq hg.symm)) hb); replace HO120 := Aside0.mk (Kd.N_below (Kd.N_elderB (qN HO120.out) gb131 (Nat.le_of_eq hg.symm)) hb); replace HO128 := Aside0.mk (Kd.N_below (Kd.N_elderB (qN HO128.out) gb131 (Nat.le_of_eq hg.symm)) hb); have BK131 := Aside0.mk (hbox); have GW131 := Aside0.mk ((by rw [hg]; exact (below_size (qS2 GE113 GE123 HB.out)) : w.heap.size ≤ gb131)); have GE131 := Aside0.mk ((by rw [hg]; exact (below_size (qS2 GE113 GE123 HB.out)) : w.heap.size ≤ gb131)); replace HB := Aside0.mk (below_step (qS2 GE113 GE123 HB.out) hb); have NB113_131 := Aside0.mk ((by rw [hg]; exact Nat.ne_of_lt (blk_lt (bq BK113.out)) : gb113 ≠ gb131)); have NB131_113 := Aside0.mk ((by rw [hg]; exact Nat.ne_of_gt (blk_lt (bq BK113.out)) : gb131 ≠ gb113)); replace BK113 := Aside0.mk (blk_below (bq BK113.out) hb); have NB123_131 := Aside0.mk ((by rw [hg]; exact Nat.ne_of_lt (blk_lt (bq BK123.out)) : gb123 ≠ gb131)); have NB131_123 := Aside0.mk ((by rw [hg]; exact Nat.ne_of_gt (blk_lt (bq BK123.out)) : gb131 ≠ gb123)); replace BK123 := Aside0.mk (blk_below (bq BK123.out) hb); clear hb hbox hg; have hnb45 := NB131_113.out; have hnc45 := NB113_131.out; have hnb46 := NB131_123.out; have hnc46 := NB123_131.out; obtain ⟨hcz47_0, hcz47_1, hcz47_2, hfz47_0, hfz47_1, hfz47_2⟩ := blk3 BK131.out; obtain ⟨Ao48, co48, eo48⟩ := Kd.N_slice HO128.out; subst eo48) | ((with_reducible refine gate_callee (f := 12) rfl ?_); refine goesL_ (some 46) rfl rfl Tryd.func12 (by kernel_rfl) rfl #[.agg #[.int .i64 0, .int .i64 96, .slice none 0 0]] rfl qq0 ?_; (refine (smf_Check.calls k 0 96 _ _ ([] : List (List (S39))) t132 t133 _ ?side1 ?side2 A8.out).mono ?_); (case side1 => exact Kd.C_nil _ _); (case side2 => exact Nat.le_refl _); rintro e w49 ⟨rfl, hb⟩; refine ⟨_, rfl, ?_⟩; replace HO112 := Aside0.mk (Kd.N_below (by (with_reducible repeat (first | apply Kd.N_alloc | apply Kd.N_drewN | apply Kd.N_drew)); exact (Kd.N_mono (Kd.N_far (p := ⟨gb131, 2, none⟩) (Kd.N_far (p := ⟨gb131, 1, none⟩) (Kd.N_far (p := ⟨gb131, 0, none⟩) (Kd.N_mono HO112.out (fun k_ hk => (⟨hk, hk.2⟩ : _ ∧ k_ ≠ gb131))) (fun _ hk => hk.2) (.int .i64 t124)) (fun _ hk => hk.2) (.int .i64 t125)) (fun _ hk => hk.2) (.slice Ao48 t126.length co48)) (fun _ h_ => h_.1))) hb); replace HO120 := Aside0.mk (Kd.N_below (by (with_reducible repeat (first | apply Kd.N_alloc | apply Kd.N_drewN | apply Kd.N_drew)); exact (Kd.N_mono (Kd.N_far (p := ⟨gb131, 2, none⟩) (Kd.N_far (p := ⟨gb131, 1, none⟩) (Kd.N_far (p := ⟨gb131, 0, none⟩) (Kd.N_mono HO120.out (fun k_ hk => (⟨hk, hk.2⟩ : _ ∧ k_ ≠ gb131))) (fun _ hk => hk.2) (.int .i64 t124)) (fun _ hk => hk.2) (.int .i64 t125)) (fun _ hk => hk.2) (.slice Ao48 t126.length co48)) (fun _ h_ => h_.1))) hb); replace HO128 := Aside0.mk (Kd.N_below (by (with_reducible repeat (first | apply Kd.N_alloc | apply Kd.N_drewN | apply Kd.N_drew)); exact (Kd.N_mono (Kd.N_far (p := ⟨gb131, 2, none⟩) (Kd.N_far (p := ⟨gb131, 1, none⟩) (Kd.N_far (p := ⟨gb131, 0, none⟩) (Kd.N_mono HO128.out (fun k_ hk => (⟨hk, hk.2⟩ : _ ∧ k_ ≠ gb131))) (fun _ hk => hk.2) (.int .i64 t124)) (fun _ hk => hk.2) (.int .i64 t125)) (fun _ hk => hk.2) (.slice Ao48 t126.length co48)) (fun _ h_ => h_.1))) hb); replace BK113 := Aside0.mk (blk_below (g := gb113) (o := .cells #[.int .i64 0, .int .i64 96, .slice Ao34 y110.length co34] 32 (0, 0)) (by refine bq ?_; refine blk_far ?_ NB113_131.out _; refine bq ?_; refine blk_far ?_ NB113_131.out _; refine bq ?_; refine blk_far ?_ NB113_131.out _; exact bq BK113.out) hb); replace BK123 := Aside0.mk (blk_below (g := gb123) (o := .cells #[.int .i64 t116, .int .i64 t117, .slice Ao42 t118.length co42] 32 (0, 0)) (by refine bq ?_; refine blk_far ?_ NB123_131.out _; refine bq ?_; refine blk_far ?_ NB123_131.out _; refine bq ?_; refine blk_far ?_ NB123_131.out _; exact bq BK123.out) hb); replace BK131 := Aside0.mk (blk_below (g := gb131) (o := .cells #[.int .i64 t124, .int .i64 t125, .slice Ao48 t126.length co48] 32 (0, 0)) (by refine bq ?_; refine blk_put (cs := #[.int .i64 t124, .int .i64 t125, .slice none 0 0]) ?_ 2 _ rfl; refine bq ?_; refine blk_put (cs := #[.int .i64 t124, .int .i64 0, .slice none 0 0]) ?_ 1 _ rfl; refine bq ?_; refine blk_put (cs := #[.int .i64 0, .int .i64 0, .slice none 0 0]) ?_ 0 _ rfl; exact bq BK131.out) hb); replace HB := Aside0.mk (below_step (qS3 GE113 GE123 GE131 HB.out) hb); (try clear hb); (try clear hb2); (try clear hk); (try clear hi)) | ((with_reducible refine gate_callee (f := 8) rfl ?_); refine goesL_ (some 50) rfl rfl Tryd.func8 (by kernel_rfl) rfl #[.int .i64 0] rfl qq0 ?_; (with_reducible refine (partitalaw16_End.calls 0 t134 t135 t136 t137 t138 t139 _ A9.out).mono ?_); rintro e w50 ⟨rfl, hb⟩; refine ⟨_, rfl, ?_⟩; replace HO112 := Aside0.mk (Kd.N_below (qN HO112.out) hb); replace HO120 := Aside0.mk (Kd.N_below (qN HO120.out) hb); replace HO128 := Aside0.mk (Kd.N_below (qN HO128.out) hb); replace BK113 := Aside0.mk (blk_below (bq BK113.out) hb); replace BK123 := Aside0.mk (blk_below (bq BK123.out) hb); replace BK131 := Aside0.mk (blk_below (bq BK131.out) hb); replace HB := Aside0.mk (below_step (qS3 GE113 GE123 GE131 HB.out) hb); (try clear hb); (try clear hb2); (try clear hk); (try clear hi)) | ((with_reducible refine gate_dst (N := 51) rfl ?_); refine Kd.R_lit k39 _ 39 ?hg (N := 51) ?hd (xs := ([(⟨t134, t135, t136, t137, t138, t139⟩ : S39)] : List (S39))) (inner := [.int .i64 t134, .int .i64 t135, .int .i64 t136, .int .i64 t137, .int .i64 t138, .string t139]) (ok := fun _ => True) (okp := fun _ => True) ?hr ?hp (fun _ hk => hk) trivial (Below.refl _ _) (Nat.le_refl _) (by simp) ?_; (case hd => rfl); (case hg => rfl); (case hr => exact qq8); (case hp => exact (Reps.c6 (show Kd.M k39 _ _ _ (⟨t134, t135, t136, t137, t138, t139⟩ : S39) [.int .i64 t134, .int .i64 t135, .int .i64 t136, .int .i64 t137, .int .i64 t138, .string t139] from (k39_mkM _ _ _ (⟨t134, t135, t136, t137, t138, t139⟩ : S39) )) (Reps.none _ _))); intro v141 w51 ho52 hb hg_ hnew_; clear hg_ hnew_; (first | rw [← Ny140.out] at ho52 | (simp only [Int.reduceToNat] at ho52; rw [← Ny140.out] at ho52)); replace HO112 := Aside0.mk (Kd.N_elder' (qN HO112.out) (Kd.R_base ho52) hb); replace HO120 := Aside0.mk (Kd.N_elder' (qN HO120.out) (Kd.R_base ho52) hb); replace HO128 := Aside0.mk (Kd.N_elder' (qN HO128.out) (Kd.R_base ho52) hb); have HO142 := Aside0.mk (Kd.R_lower ho52 (below_size (qS3 GE113 GE123 GE131 HB.out))); replace BK113 := Aside0.mk (blk_below (bq BK113.out) hb); replace BK123 := Aside0.mk (blk_below (bq BK123.out) hb); replace BK131 := Aside0.mk (blk_below (bq BK131.out) hb); replace HB := Aside0.mk (below_step (qS3 GE113 GE123 GE131 HB.out) hb); clear hb ho52; obtain ⟨Ao53, co53, eo53⟩ := Kd.R_slice HO142.out; subst eo53) | ((with_reducible refine gate_dst (N := 52) rfl ?_); refine Kd.N_lit (Kd.slice 39 k39) _ 33 ?hg (N' := 52) ?hd (xs := ([y140, []] : List (List (S39)))) (inner := [.slice Ao53 y140.length co53, .slice none 0 0]) (ok := (fun k_ => some k_ ≠ (.slice Ao34 y110.length co34 : Value).ownBlock ∧ some k_ ≠ (.slice Ao42 t118.length co42 : Value).ownBlock ∧ some k_ ≠ (.slice Ao48 t126.length co48 : Value).ownBlock ∧ k_ ≠ gb113 ∧ k_ ≠ gb123 ∧ k_ ≠ gb131)) (okp := (fun k_ => some k_ ≠ (.slice Ao34 y110.length co34 : Value).ownBlock ∧ some k_ ≠ (.slice Ao42 t118.length co42 : Value).ownBlock ∧ some k_ ≠ (.slice Ao48 t126.length co48 : Value).ownBlock ∧ k_ ≠ gb113 ∧ k_ ≠ gb123 ∧ k_ ≠ gb131)) ?hr ?hp (fun _ hk => hk) ((show ∀ k_, w51.heap.size ≤ k_ → (fun k_ => some k_ ≠ (.slice Ao34 y110.length co34 : Value).ownBlock ∧ some k_ ≠ (.slice Ao42 t118.length co42 : Value).ownBlock ∧ some k_ ≠ (.slice Ao48 t126.length co48 : Value).ownBlock ∧ k_ ≠ gb113 ∧ k_ ≠ gb123 ∧ k_ ≠ gb131) k_ from fun k_ hk => ⟨Kd.fresh' (Kd.N_lt (qN HO112.out)) k_ hk, Kd.fresh' (Kd.N_lt (qN HO120.out)) k_ hk, Kd.fresh' (Kd.N_lt (qN HO128.out)) k_ hk, Kd.freshB (bq BK113.out) k_ hk, Kd.freshB (bq BK123.out) k_ hk, Kd.freshB (bq BK131.out) k_ hk⟩) _ (Nat.le_refl _)) (Below.refl _ _) (Nat.le_refl _) (by simp) ?_; (case hd => rfl); (case hg => rfl); (case hr => exact qq8); (case hp => exact (Reps.one (show Kd.FK (Kd.slice 39 k39) _ _ y140 [.slice Ao53 y140.length co53] from (Kd.FK_slice_mk (Kd.R_reads' (Kd.R_mono (ok' := (fun k_ => some k_ ≠ (.slice Ao34 y110.length co34 : Value).ownBlock ∧ some k_ ≠ (.slice Ao42 t118.length co42 : Value).ownBlock ∧ some k_ ≠ (.slice Ao48 t126.length co48 : Value).ownBlock ∧ k_ ≠ gb113 ∧ k_ ≠ gb123 ∧ k_ ≠ gb131)) (Kd.R_types (Kd.R_types (Kd.R_types (Kd.R_apart' (Kd.R_apart' (Kd.R_apart' (HO142.out) (Kd.N_typed HO112.out) (by decide)) (Kd.N_typed HO120.out) (by decide)) (Kd.N_typed HO128.out) (by decide)) BK113.out (by decide)) BK123.out (by decide)) BK131.out (by decide)) (fun k_ hk => ⟨hk.1.1.1.1.1.2, ⟨hk.1.1.1.1.2, ⟨hk.1.1.1.2, ⟨hk.1.1.2, ⟨hk.1.2, hk.2⟩⟩⟩⟩⟩))).2.1 (Kd.R_F (Kd.R_mono (ok' := (fun k_ => some k_ ≠ (.slice Ao34 y110.length co34 : Value).ownBlock ∧ some k_ ≠ (.slice Ao42 t118.length co42 : Value).ownBlock ∧ some k_ ≠ (.slice Ao48 t126.length co48 : Value).ownBlock ∧ k_ ≠ gb113 ∧ k_ ≠ gb123 ∧ k_ ≠ gb131)) (Kd.R_types (Kd.R_types (Kd.R_types (Kd.R_apart' (Kd.R_apart' (Kd.R_apart' (HO142.out) (Kd.N_typed HO112.out) (by decide)) (Kd.N_typed HO120.out) (by decide)) (Kd.N_typed HO128.out) (by decide)) BK113.out (by decide)) BK123.out (by decide)) BK131.out (by decide)) (fun k_ hk => ⟨hk.1.1.1.1.1.2, ⟨hk.1.1.1.1.2, ⟨hk.1.1.1.2, ⟨hk.1.1.2, ⟨hk.1.2, hk.2⟩⟩⟩⟩⟩))))) (Reps.one (show Kd.FK (Kd.slice 39 k39) _ _ [] [.slice none 0 0] from (Kd.FK_slice_mk (Nat.le_refl _) (Kd.F_nil _ _ _))) (Reps.none _ _)))); intro v144 w54 ho55 hb hg_ hnew_; clear hg_ hnew_; (first | rw [← Ny143.out] at ho55 | (simp only [Int.reduceToNat] at ho55; rw [← Ny143.out] at ho55)); replace HO112 := Aside0.mk (Kd.N_elder' (qN HO112.out) (Kd.N_base ho55) hb); replace HO120 := Aside0.mk (Kd.N_elder' (qN HO120.out) (Kd.N_base ho55) hb); replace HO128 := Aside0.mk (Kd.N_elder' (qN HO128.out) (Kd.N_base ho55) hb); have HO145 := Aside0.mk (Kd.N_lower ho55 (below_size (qS3 GE113 GE123 GE131 HB.out))); replace BK113 := Aside0.mk (blk_below (bq BK113.out) hb); replace BK123 := Aside0.mk (blk_below (bq BK123.out) hb); replace BK131 := Aside0.mk (blk_below (bq BK131.out) hb); replace HB := Aside0.mk (below_step (qS3 GE113 GE123 GE131 HB.out) hb); clear HO142; clear hb ho55; obtain ⟨Ao56, co56, eo56⟩ := Kd.N_slice HO145.out; subst eo56) | ((with_reducible refine gate_callee (f := 12) rfl ?_); refine goesL_ (some 54) rfl rfl Tryd.func12 (by kernel_rfl) rfl #[.agg #[.int .i64 1, .int .i64 96, .slice Ao56 y143.length co56]] rfl qq0 ?_; (with_reducible refine (smf_Check.calls k 1 96 _ _ y143 t146 t147 _ ?side1 ?side2 A10.out).mono ?_); (case side1 => repeat (first | exact (Kd.N_reads' HO145.out).2.2 | (with_reducible refine Kd.C_alloc ?_ _) | (with_reducible refine Kd.C_drewN ?_ _) | (with_reducible refine Kd.C_drew ?_))); (case side2 => exact (Kd.N_reads' HO145.out).2.1); rintro e w57 ⟨rfl, hb⟩; refine ⟨_, rfl, ?_⟩; replace HO112 := Aside0.mk (Kd.N_below (qN HO112.out) hb); replace HO120 := Aside0.mk (Kd.N_below (qN HO120.out) hb); replace HO128 := Aside0.mk (Kd.N_below (qN HO128.out) hb); replace HO145 := Aside0.mk (Kd.N_below (qN HO145.out) hb); replace BK113 := Aside0.mk (blk_below (bq BK113.out) hb); replace BK123 := Aside0.mk (blk_below (bq BK123.out) hb); replace BK131 := Aside0.mk (blk_below (bq BK131.out) hb); replace HB := Aside0.mk (below_step (qS3 GE113 GE123 GE131 HB.out) hb); (try clear hb); (try clear hb2); (try clear hk); (try clear hi)) | ((with_reducible refine gate_callee (f := 8) rfl ?_); refine goesL_ (some 59) rfl rfl Tryd.func8 (by kernel_rfl) rfl #[.int .i64 0] rfl qq0 ?_; (with_reducible refine (partitalaw16_End.calls 0 t148 t149 t150 t151 t152 t153 _ A11.out).mono ?_); rintro e w58 ⟨rfl, hb⟩; refine ⟨_, rfl, ?_⟩; replace HO112 := Aside0.mk (Kd.N_below (qN HO112.out) hb); replace HO120 := Aside0.mk (Kd.N_below (qN HO120.out) hb); replace HO128 := Aside0.mk (Kd.N_below (qN HO128.out) hb); replace HO145 := Aside0.mk (Kd.N_below (qN HO145.out) hb); replace BK113 := Aside0.mk (blk_below (bq BK113.out) hb); replace BK123 := Aside0.mk (blk_below (bq BK123.out) hb); replace BK131 := Aside0.mk (blk_below (bq BK131.out) hb); replace HB := Aside0.mk (below_step (qS3 GE113 GE123 GE131 HB.out) hb); (try clear hb); (try clear hb2); (try clear hk); (try clear hi)) | ((with_reducible refine gate_dst (N := 60) rfl ?_); refine Kd.R_lit k39 _ 39 ?hg (N := 60) ?hd (xs := ([(⟨0, 3, 0, 0, 0, (⟨#[]⟩ : ByteArray)⟩ : S39), (⟨t148, t149, t150, t151, t152, t153⟩ : S39)] : List (S39))) (inner := [.int .i64 0, .int .i64 3, .int .i64 0, .int .i64 0, .int .i64 0, .string (⟨#[]⟩ : ByteArray), .int .i64 t148, .int .i64 t149, .int .i64 t150, .int .i64 t151, .int .i64 t152, .string t153]) (ok := fun _ => True) (okp := fun _ => True) ?hr ?hp (fun _ hk => hk) trivial (Below.refl _ _) (Nat.le_refl _) (by simp) ?_; (case hd => rfl); (case hg => rfl); (case hr => exact qq8); (case hp => exact (Reps.c6 (show Kd.M k39 _ _ _ (⟨0, 3, 0, 0, 0, (⟨#[]⟩ : ByteArray)⟩ : S39) [.int .i64 0, .int .i64 3, .int .i64 0, .int .i64 0, .int .i64 0, .string (⟨#[]⟩ : ByteArray)] from (k39_mkM _ _ _ (⟨0, 3, 0, 0, 0, (⟨#[]⟩ : ByteArray)⟩ : S39) )) (Reps.c6 (show Kd.M k39 _ _ _ (⟨t148, t149, t150, t151, t152, t153⟩ : S39) [.int .i64 t148, .int .i64 t149, .int .i64 t150, .int .i64 t151, .int .i64 t152, .string t153] from (k39_mkM _ _ _ (⟨t148, t149, t150, t151, t152, t153⟩ : S39) )) (Reps.none _ _)))); intro v155 w59 ho60 hb hg_ hnew_; clear hg_ hnew_; (first | rw [← Ny154.out] at ho60 | (simp only [Int.reduceToNat] at ho60; rw [← Ny154.out] at ho60)); replace HO112 := Aside0.mk (Kd.N_elder' (qN HO112.out) (Kd.R_base ho60) hb); replace HO120 := Aside0.mk (Kd.N_elder' (qN HO120.out) (Kd.R_base ho60) hb); replace HO128 := Aside0.mk (Kd.N_elder' (qN HO128.out) (Kd.R_base ho60) hb); replace HO145 := Aside0.mk (Kd.N_elder' (qN HO145.out) (Kd.R_base ho60) hb); have HO156 := Aside0.mk (Kd.R_lower ho60 (below_size (qS3 GE113 GE123 GE131 HB.out))); replace BK113 := Aside0.mk (blk_below (bq BK113.out) hb); replace BK123 := Aside0.mk (blk_below (bq BK123.out) hb); replace BK131 := Aside0.mk (blk_below (bq BK131.out) hb); replace HB := Aside0.mk (below_step (qS3 GE113 GE123 GE131 HB.out) hb); clear hb ho60; obtain ⟨Ao61, co61, eo61⟩ := Kd.R_slice HO156.out; subst eo61) | ((with_reducible refine gate_dst (N := 61) rfl ?_); refine Kd.N_lit (Kd.slice 39 k39) _ 33 ?hg (N' := 61) ?hd (xs := ([y154] : List (List (S39)))) (inner := [.slice Ao61 y154.length co61]) (ok := (fun k_ => some k_ ≠ (.slice Ao34 y110.length co34 : Value).ownBlock ∧ some k_ ≠ (.slice Ao42 t118.length co42 : Value).ownBlock ∧ some k_ ≠ (.slice Ao48 t126.length co48 : Value).ownBlock ∧ some k_ ≠ (.slice Ao56 y143.length co56 : Value).ownBlock ∧ k_ ≠ gb113 ∧ k_ ≠ gb123 ∧ k_ ≠ gb131)) (okp := (fun k_ => some k_ ≠ (.slice Ao34 y110.length co34 : Value).ownBlock ∧ some k_ ≠ (.slice Ao42 t118.length co42 : Value).ownBlock ∧ some k_ ≠ (.slice Ao48 t126.length co48 : Value).ownBlock ∧ some k_ ≠ (.slice Ao56 y143.length co56 : Value).ownBlock ∧ k_ ≠ gb113 ∧ k_ ≠ gb123 ∧ k_ ≠ gb131)) ?hr ?hp (fun _ hk => hk) ((show ∀ k_, w59.heap.size ≤ k_ → (fun k_ => some k_ ≠ (.slice Ao34 y110.length co34 : Value).ownBlock ∧ some k_ ≠ (.slice Ao42 t118.length co42 : Value).ownBlock ∧ some k_ ≠ (.slice Ao48 t126.length co48 : Value).ownBlock ∧ some k_ ≠ (.slice Ao56 y143.length co56 : Value).ownBlock ∧ k_ ≠ gb113 ∧ k_ ≠ gb123 ∧ k_ ≠ gb131) k_ from fun k_ hk => ⟨Kd.fresh' (Kd.N_lt (qN HO112.out)) k_ hk, Kd.fresh' (Kd.N_lt (qN HO120.out)) k_ hk, Kd.fresh' (Kd.N_lt (qN HO128.out)) k_ hk, Kd.fresh' (Kd.N_lt (qN HO145.out)) k_ hk, Kd.freshB (bq BK113.out) k_ hk, Kd.freshB (bq BK123.out) k_ hk, Kd.freshB (bq BK131.out) k_ hk⟩) _ (Nat.le_refl _)) (Below.refl _ _) (Nat.le_refl _) (by simp) ?_; (case hd => rfl); (case hg => rfl); (case hr => exact qq8); (case hp => exact (Reps.one (show Kd.FK (Kd.slice 39 k39) _ _ y154 [.slice Ao61 y154.length co61] from (Kd.FK_slice_mk (Kd.R_reads' (Kd.R_mono (ok' := (fun k_ => some k_ ≠ (.slice Ao34 y110.length co34 : Value).ownBlock ∧ some k_ ≠ (.slice Ao42 t118.length co42 : Value).ownBlock ∧ some k_ ≠ (.slice Ao48 t126.length co48 : Value).ownBlock ∧ some k_ ≠ (.slice Ao56 y143.length co56 : Value).ownBlock ∧ k_ ≠ gb113 ∧ k_ ≠ gb123 ∧ k_ ≠ gb131)) (Kd.R_types (Kd.R_types (Kd.R_types (Kd.R_apart' (Kd.R_apart' (Kd.R_apart' (Kd.R_apart' (HO156.out) (Kd.N_typed HO112.out) (by decide)) (Kd.N_typed HO120.out) (by decide)) (Kd.N_typed HO128.out) (by decide)) (Kd.N_typed HO145.out) (by decide)) BK113.out (by decide)) BK123.out (by decide)) BK131.out (by decide)) (fun k_ hk => ⟨hk.1.1.1.1.1.1.2, ⟨hk.1.1.1.1.1.2, ⟨hk.1.1.1.1.2, ⟨hk.1.1.1.2, ⟨hk.1.1.2, ⟨hk.1.2, hk.2⟩⟩⟩⟩⟩⟩))).2.1 (Kd.R_F (Kd.R_mono (ok' := (fun k_ => some k_ ≠ (.slice Ao34 y110.length co34 : Value).ownBlock ∧ some k_ ≠ (.slice Ao42 t118.length co42 : Value).ownBlock ∧ some k_ ≠ (.slice Ao48 t126.length co48 : Value).ownBlock ∧ some k_ ≠ (.slice Ao56 y143.length co56 : Value).ownBlock ∧ k_ ≠ gb113 ∧ k_ ≠ gb123 ∧ k_ ≠ gb131)) (Kd.R_types (Kd.R_types (Kd.R_types (Kd.R_apart' (Kd.R_apart' (Kd.R_apart' (Kd.R_apart' (HO156.out) (Kd.N_typed HO112.out) (by decide)) (Kd.N_typed HO120.out) (by decide)) (Kd.N_typed HO128.out) (by decide)) (Kd.N_typed HO145.out) (by decide)) BK113.out (by decide)) BK123.out (by decide)) BK131.out (by decide)) (fun k_ hk => ⟨hk.1.1.1.1.1.1.2, ⟨hk.1.1.1.1.1.2, ⟨hk.1.1.1.1.2, ⟨hk.1.1.1.2, ⟨hk.1.1.2, ⟨hk.1.2, hk.2⟩⟩⟩⟩⟩⟩))))) (Reps.none _ _))); intro v158 w62 ho63 hb hg_ hnew_; clear hg_ hnew_; (first | rw [← Ny157.out] at ho63 | (simp only [Int.reduceToNat] at ho63; rw [← Ny157.out] at ho63)); replace HO112 := Aside0.mk (Kd.N_elder' (qN HO112.out) (Kd.N_base ho63) hb); replace HO120 := Aside0.mk (Kd.N_elder' (qN HO120.out) (Kd.N_base ho63) hb); replace HO128 := Aside0.mk (Kd.N_elder' (qN HO128.out) (Kd.N_base ho63) hb); replace HO145 := Aside0.mk (Kd.N_elder' (qN HO145.out) (Kd.N_base ho63) hb); have HO159 := Aside0.mk (Kd.N_lower ho63 (below_size (qS3 GE113 GE123 GE131 HB.out))); replace BK113 := Aside0.mk (blk_below (bq BK113.out) hb); replace BK123 := Aside0.mk (blk_below (bq BK123.out) hb); replace BK131 := Aside0.mk (blk_below (bq BK131.out) hb); replace HB := Aside0.mk (below_step (qS3 GE113 GE123 GE131 HB.out) hb); clear HO156; clear hb ho63; obtain ⟨Ao64, co64, eo64⟩ := Kd.N_slice HO159.out; subst eo64) | ((with_reducible refine gate_callee (f := 12) rfl ?_); refine goesL_ (some 63) rfl rfl Tryd.func12 (by kernel_rfl) rfl #[.agg #[.int .i64 0, .int .i64 96, .slice Ao64 y157.length co64]] rfl qq0 ?_; (with_reducible refine (smf_Check.calls k 0 96 _ _ y157 t160 t161 _ ?side1 ?side2 A12.out).mono ?_); (case side1 => repeat (first | exact (Kd.N_reads' HO159.out).2.2 | (with_reducible refine Kd.C_alloc ?_ _) | (with_reducible refine Kd.C_drewN ?_ _) | (with_reducible refine Kd.C_drew ?_))); (case side2 => exact (Kd.N_reads' HO159.out).2.1); rintro e w65 ⟨rfl, hb⟩; refine ⟨_, rfl, ?_⟩; replace HO112 := Aside0.mk (Kd.N_below (qN HO112.out) hb); replace HO120 := Aside0.mk (Kd.N_below (qN HO120.out) hb); replace HO128 := Aside0.mk (Kd.N_below (qN HO128.out) hb); replace HO145 := Aside0.mk (Kd.N_below (qN HO145.out) hb); replace HO159 := Aside0.mk (Kd.N_below (qN HO159.out) hb); replace BK113 := Aside0.mk (blk_below (bq BK113.out) hb); replace BK123 := Aside0.mk (blk_below (bq BK123.out) hb); replace BK131 := Aside0.mk (blk_below (bq BK131.out) hb); replace HB := Aside0.mk (below_step (qS3 GE113 GE123 GE131 HB.out) hb); (try clear hb); (try clear hb2); (try clear hk); (try clear hi)) | ((with_reducible refine gate_callee (f := 10) rfl ?_); refine goesL_ (some 67) rfl rfl Tryd.func10 (by kernel_rfl) rfl #[.string (⟨#[77, 84, 104, 120]⟩ : ByteArray)] rfl qq0 ?_; (with_reducible refine (smf_Parse.calls k (⟨#[77, 84, 104, 120]⟩ : ByteArray) t162 t163 t164 t167 t168 _ A13.out).mono ?_); rintro e w66 ⟨v165, rfl, ho0, hb⟩; refine ⟨_, rfl, ?_⟩; have HO166 := Aside0.mk (Kd.N_lower (Kd.N_mono (ok' := fun k_ => some k_ ≠ (.slice Ao34 y110.length co34 : Value).ownBlock ∧ some k_ ≠ (.slice Ao42 t118.length co42 : Value).ownBlock ∧ some k_ ≠ (.slice Ao48 t126.length co48 : Value).ownBlock ∧ some k_ ≠ (.slice Ao56 y143.length co56 : Value).ownBlock ∧ some k_ ≠ (.slice Ao64 y157.length co64 : Value).ownBlock ∧ k_ ≠ gb113 ∧ k_ ≠ gb123 ∧ k_ ≠ gb131) (Kd.S_N (Kd.S_bound ho0)) (fun k_ hk_ => ⟨(Kd.fresh' (Kd.N_lt (qN HO112.out)) k_ hk_.2.1), (Kd.fresh' (Kd.N_lt (qN HO120.out)) k_ hk_.2.1), (Kd.fresh' (Kd.N_lt (qN HO128.out)) k_ hk_.2.1), (Kd.fresh' (Kd.N_lt (qN HO145.out)) k_ hk_.2.1), (Kd.fresh' (Kd.N_lt (qN HO159.out)) k_ hk_.2.1), (Kd.freshB (bq BK113.out) k_ hk_.2.1), (Kd.freshB (bq BK123.out) k_ hk_.2.1), (Kd.freshB (bq BK131.out) k_ hk_.2.1)⟩)) (below_size (qS3 GE113 GE123 GE131 HB.out))); replace HO112 := Aside0.mk (Kd.N_elder' (qN HO112.out) qqh hb); replace HO120 := Aside0.mk (Kd.N_elder' (qN HO120.out) qqh hb); replace HO128 := Aside0.mk (Kd.N_elder' (qN HO128.out) qqh hb); replace HO145 := Aside0.mk (Kd.N_elder' (qN HO145.out) qqh hb); replace HO159 := Aside0.mk (Kd.N_elder' (qN HO159.out) qqh hb); replace BK113 := Aside0.mk (blk_below (bq BK113.out) hb); replace BK123 := Aside0.mk (blk_below (bq BK123.out) hb); replace BK131 := Aside0.mk (blk_below (bq BK131.out) hb); replace HB := Aside0.mk (below_step (qS3 GE113 GE123 GE131 HB.out) hb); (try clear hb); (try clear hb2); (try clear hk); (try clear hi); (try clear ho0)) | ((with_reducible refine gate_dst (N := 16) rfl ?_); refine box_event ?hg (N := 16) ?hd (cs := #[.int .i64 0, .int .i64 0, .slice none 0 0]) (t := 32) ?hr ?_; (case hd => rfl); (case hg => rfl); (case hr => exact qq8); intro gb169 hg w67 hbox hb; replace HO112 := Aside0.mk (Kd.N_below (Kd.N_elderB (qN HO112.out) gb169 (Nat.le_of_eq hg.symm)) hb); replace HO120 := Aside0.mk (Kd.N_below (Kd.N_elderB (qN HO120.out) gb169 (Nat.le_of_eq hg.symm)) hb); replace HO128 := Aside0.mk (Kd.N_below (Kd.N_elderB (qN HO128.out) gb169 (Nat.le_of_eq hg.symm)) hb); replace HO145 := Aside0.mk (Kd.N_below (Kd.N_elderB (qN HO145.out) gb169 (Nat.le_of_eq hg.symm)) hb); replace HO159 := Aside0.mk (Kd.N_below (Kd.N_elderB (qN HO159.out) gb169 (Nat.le_of_eq hg.symm)) hb); replace HO166 := Aside0.mk (Kd.N_below (Kd.N_elderB (qN HO166.out) gb169 (Nat.le_of_eq hg.symm)) hb); have BK169 := Aside0.mk (hbox); have GW169 := Aside0.mk ((by rw [hg]; exact (below_size (qS3 GE113 GE123 GE131 HB.out)) : w.heap.size ≤ gb169)); have GE169 := Aside0.mk ((by rw [hg]; exact (below_size (qS3 GE113 GE123 GE131 HB.out)) : w.heap.size ≤ gb169)); replace HB := Aside0.mk (below_step (qS3 GE113 GE123 GE131 HB.out) hb); have NB113_169 := Aside0.mk ((by rw [hg]; exact Nat.ne_of_lt (blk_lt (bq BK113.out)) : gb113 ≠ gb169)); have NB169_113 := Aside0.mk ((by rw [hg]; exact Nat.ne_of_gt (blk_lt (bq BK113.out)) : gb169 ≠ gb113)); replace BK113 := Aside0.mk (blk_below (bq BK113.out) hb); have NB123_169 := Aside0.mk ((by rw [hg]; exact Nat.ne_of_lt (blk_lt (bq BK123.out)) : gb123 ≠ gb169)); have NB169_123 := Aside0.mk ((by rw [hg]; exact Nat.ne_of_gt (blk_lt (bq BK123.out)) : gb169 ≠ gb123)); replace BK123 := Aside0.mk (blk_below (bq BK123.out) hb); have NB131_169 := Aside0.mk ((by rw [hg]; exact Nat.ne_of_lt (blk_lt (bq BK131.out)) : gb131 ≠ gb169)); have NB169_131 := Aside0.mk ((by rw [hg]; exact Nat.ne_of_gt (blk_lt (bq BK131.out)) : gb169 ≠ gb131)); replace BK131 := Aside0.mk (blk_below (bq BK131.out) hb); clear hb hbox hg; have hnb68 := NB169_113.out; have hnc68 := NB113_169.out; have hnb69 := NB169_123.out; have hnc69 := NB123_169.out; have hnb70 := NB169_131.out; have hnc70 := NB131_169.out; obtain ⟨hcz71_0, hcz71_1, hcz71_2, hfz71_0, hfz71_1, hfz71_2⟩ := blk3 BK169.out; obtain ⟨Ao72, co72, eo72⟩ := Kd.N_slice HO166.out; subst eo72; obtain ⟨hcz73_0, hcz73_1, hcz73_2, hfz73_0, hfz73_1, hfz73_2⟩ := blk3 BK113.out; obtain ⟨hcz74_0, hcz74_1, hcz74_2, hfz74_0, hfz74_1, hfz74_2⟩ := blk3 BK123.out) | (go_at_call 13; (with_reducible refine (smf_Same.calls k 0 96 _ _ y110 t116 t117 _ _ t118 true _ ?side1 ?side2 ?side3 ?side4 A18.out).mono ?_); (case side1 => refine (Kd.N_reads' (e := 33) (base := w.heap.size) (ok := ?ok1_) (n := y110.length) (c := co34) ?h1_).2.2; (case h1_ => exact (by (with_reducible repeat (first | apply Kd.N_alloc | apply Kd.N_drewN | apply Kd.N_drew)); have hq_ := (Kd.N_far (p := ⟨gb169, 2, none⟩) (Kd.N_far (p := ⟨gb169, 1, none⟩) (Kd.N_far (p := ⟨gb169, 0, none⟩) (Kd.N_mono HO112.out (fun k_ hk => (⟨hk, hk.2⟩ : _ ∧ k_ ≠ gb169))) (fun _ hk => hk.2) (.int .i64 t162)) (fun _ hk => hk.2) (.int .i64 t163)) (fun _ hk => hk.2) (.slice Ao72 t164.length co72)); exact hq_))); (case side2 => exact (Kd.N_reads' HO112.out).2.1); (case side3 => refine (Kd.N_reads' (e := 33) (base := w.heap.size) (ok := ?ok2_) (n := t118.length) (c := co42) ?h2_).2.2; (case h2_ => exact (by (with_reducible repeat (first | apply Kd.N_alloc | apply Kd.N_drewN | apply Kd.N_drew)); have hq_ := (Kd.N_far (p := ⟨gb169, 2, none⟩) (Kd.N_far (p := ⟨gb169, 1, none⟩) (Kd.N_far (p := ⟨gb169, 0, none⟩) (Kd.N_mono HO120.out (fun k_ hk => (⟨hk, hk.2⟩ : _ ∧ k_ ≠ gb169))) (fun _ hk => hk.2) (.int .i64 t162)) (fun _ hk => hk.2) (.int .i64 t163)) (fun _ hk => hk.2) (.slice Ao72 t164.length co72)); exact hq_))); (case side4 => exact (Kd.N_reads' HO120.out).2.1); rintro e w75 ⟨rfl, hb⟩; replace HO112 := Aside0.mk (Kd.N_below (by (with_reducible repeat (first | apply Kd.N_alloc | apply Kd.N_drewN | apply Kd.N_drew)); exact (Kd.N_mono (Kd.N_far (p := ⟨gb169, 2, none⟩) (Kd.N_far (p := ⟨gb169, 1, none⟩) (Kd.N_far (p := ⟨gb169, 0, none⟩) (Kd.N_mono HO112.out (fun k_ hk => (⟨hk, hk.2⟩ : _ ∧ k_ ≠ gb169))) (fun _ hk => hk.2) (.int .i64 t162)) (fun _ hk => hk.2) (.int .i64 t163)) (fun _ hk => hk.2) (.slice Ao72 t164.length co72)) (fun _ h_ => h_.1))) hb); replace HO120 := Aside0.mk (Kd.N_below (by (with_reducible repeat (first | apply Kd.N_alloc | apply Kd.N_drewN | apply Kd.N_drew)); exact (Kd.N_mono (Kd.N_far (p := ⟨gb169, 2, none⟩) (Kd.N_far (p := ⟨gb169, 1, none⟩) (Kd.N_far (p := ⟨gb169, 0, none⟩) (Kd.N_mono HO120.out (fun k_ hk => (⟨hk, hk.2⟩ : _ ∧ k_ ≠ gb169))) (fun _ hk => hk.2) (.int .i64 t162)) (fun _ hk => hk.2) (.int .i64 t163)) (fun _ hk => hk.2) (.slice Ao72 t164.length co72)) (fun _ h_ => h_.1))) hb); replace HO128 := Aside0.mk (Kd.N_below (by (with_reducible repeat (first | apply Kd.N_alloc | apply Kd.N_drewN | apply Kd.N_drew)); exact (Kd.N_mono (Kd.N_far (p := ⟨gb169, 2, none⟩) (Kd.N_far (p := ⟨gb169, 1, none⟩) (Kd.N_far (p := ⟨gb169, 0, none⟩) (Kd.N_mono HO128.out (fun k_ hk => (⟨hk, hk.2⟩ : _ ∧ k_ ≠ gb169))) (fun _ hk => hk.2) (.int .i64 t162)) (fun _ hk => hk.2) (.int .i64 t163)) (fun _ hk => hk.2) (.slice Ao72 t164.length co72)) (fun _ h_ => h_.1))) hb); replace HO145 := Aside0.mk (Kd.N_below (by (with_reducible repeat (first | apply Kd.N_alloc | apply Kd.N_drewN | apply Kd.N_drew)); exact (Kd.N_mono (Kd.N_far (p := ⟨gb169, 2, none⟩) (Kd.N_far (p := ⟨gb169, 1, none⟩) (Kd.N_far (p := ⟨gb169, 0, none⟩) (Kd.N_mono HO145.out (fun k_ hk => (⟨hk, hk.2⟩ : _ ∧ k_ ≠ gb169))) (fun _ hk => hk.2) (.int .i64 t162)) (fun _ hk => hk.2) (.int .i64 t163)) (fun _ hk => hk.2) (.slice Ao72 t164.length co72)) (fun _ h_ => h_.1))) hb); replace HO159 := Aside0.mk (Kd.N_below (by (with_reducible repeat (first | apply Kd.N_alloc | apply Kd.N_drewN | apply Kd.N_drew)); exact (Kd.N_mono (Kd.N_far (p := ⟨gb169, 2, none⟩) (Kd.N_far (p := ⟨gb169, 1, none⟩) (Kd.N_far (p := ⟨gb169, 0, none⟩) (Kd.N_mono HO159.out (fun k_ hk => (⟨hk, hk.2⟩ : _ ∧ k_ ≠ gb169))) (fun _ hk => hk.2) (.int .i64 t162)) (fun _ hk => hk.2) (.int .i64 t163)) (fun _ hk => hk.2) (.slice Ao72 t164.length co72)) (fun _ h_ => h_.1))) hb); replace HO166 := Aside0.mk (Kd.N_below (by (with_reducible repeat (first | apply Kd.N_alloc | apply Kd.N_drewN | apply Kd.N_drew)); exact (Kd.N_mono (Kd.N_far (p := ⟨gb169, 2, none⟩) (Kd.N_far (p := ⟨gb169, 1, none⟩) (Kd.N_far (p := ⟨gb169, 0, none⟩) (Kd.N_mono HO166.out (fun k_ hk => (⟨hk, hk.2⟩ : _ ∧ k_ ≠ gb169))) (fun _ hk => hk.2) (.int .i64 t162)) (fun _ hk => hk.2) (.int .i64 t163)) (fun _ hk => hk.2) (.slice Ao72 t164.length co72)) (fun _ h_ => h_.1))) hb); replace BK113 := Aside0.mk (blk_below (g := gb113) (o := .cells #[.int .i64 0, .int .i64 96, .slice Ao34 y110.length co34] 32 (0, 0)) (by refine bq ?_; refine blk_far ?_ NB113_169.out _; refine bq ?_; refine blk_far ?_ NB113_169.out _; refine bq ?_; refine blk_far ?_ NB113_169.out _; exact bq BK113.out) hb); replace BK123 := Aside0.mk (blk_below (g := gb123) (o := .cells #[.int .i64 t116, .int .i64 t117, .slice Ao42 t118.length co42] 32 (0, 0)) (by refine bq ?_; refine blk_far ?_ NB123_169.out _; refine bq ?_; refine blk_far ?_ NB123_169.out _; refine bq ?_; refine blk_far ?_ NB123_169.out _; exact bq BK123.out) hb); replace BK131 := Aside0.mk (blk_below (g := gb131) (o := .cells #[.int .i64 t124, .int .i64 t125, .slice Ao48 t126.length co48] 32 (0, 0)) (by refine bq ?_; refine blk_far ?_ NB131_169.out _; refine bq ?_; refine blk_far ?_ NB131_169.out _; refine bq ?_; refine blk_far ?_ NB131_169.out _; exact bq BK131.out) hb); replace BK169 := Aside0.mk (blk_below (g := gb169) (o := .cells #[.int .i64 t162, .int .i64 t163, .slice Ao72 t164.length co72] 32 (0, 0)) (by refine bq ?_; refine blk_put (cs := #[.int .i64 t162, .int .i64 t163, .slice none 0 0]) ?_ 2 _ rfl; refine bq ?_; refine blk_put (cs := #[.int .i64 t162, .int .i64 0, .slice none 0 0]) ?_ 1 _ rfl; refine bq ?_; refine blk_put (cs := #[.int .i64 0, .int .i64 0, .slice none 0 0]) ?_ 0 _ rfl; exact bq BK169.out) hb); replace HB := Aside0.mk (below_step (qS4 GE113 GE123 GE131 GE169 HB.out) hb); (try clear hb); (try clear hb2); (try clear hk); (try clear hi)))
  go_ret
  exact ⟨by first | rfl | (simp [errW_none, errW_some] <;> rfl) | (simp only [← hji4]; first | rfl | (simp [errW_none, errW_some] <;> rfl)) | (simp [*, errW_none, errW_some] <;> rfl), qS4 GE113 GE123 GE131 GE169 HB.out⟩
def partitalaw16_pick.f (a0 : Int) (a1 : Int) : Option (Int) := if a0 < 0 then (if a1 = 0 then (none) else (some (Int.tmod (wrap64 (-(wrap64 (a0 + 1)))) a1))) else (if a1 = 0 then (none) else (some (Int.tmod a0 a1)))
set_option maxHeartbeats 8000000 in
set_option maxRecDepth 100000 in
theorem partitalaw16_pick.calls (a0 : Int) (a1 : Int) (r : Int) (w : World) (h : partitalaw16_pick.f a0 a1 = some r) :
    Calls Tryd.prog 5 #[.int .i64 a0, .int .i64 a1] w fun e w' => e = .returned (.int .i64 r) ∧ Drawn0 w w' := by
  have H := h
  unfold partitalaw16_pick.f at H
  clear h
  by_cases c3 : a0 < 0
  · rw [if_pos c3] at H
    have c3b0 : decide (a0 < 0) = true := decide_eq_true c3
    clear c3
    by_cases c4 : a1 = 0
    · rw [if_pos c4] at H
      exact absurd H (by simp)
    rw [if_neg c4] at H
    have c4b0 : (a1 == 0) = false := beq_eq_false_iff_ne.mpr c4
    have c4b1 : (a1 != 0) = true := bne_iff_ne.mpr c4
    obtain rfl := Option.some.inj H
    go_enter Tryd.func5, Tryd.ntmps5
    go_wp2
    go_ret
    exact ⟨qq6, qq9⟩
  rw [if_neg c3] at H
  have c3b0 : decide (a0 < 0) = false := decide_eq_false c3
  clear c3
  by_cases c5 : a1 = 0
  · rw [if_pos c5] at H
    exact absurd H (by simp)
  rw [if_neg c5] at H
  have c5b0 : (a1 == 0) = false := beq_eq_false_iff_ne.mpr c5
  have c5b1 : (a1 != 0) = true := bne_iff_ne.mpr c5
  obtain rfl := Option.some.inj H
  go_enter Tryd.func5, Tryd.ntmps5
  go_wp2
  go_ret
  exact ⟨qq6, qq9⟩
def key_Right.f (a0_0 : Int) (a0_1 : Bool) : Option (Bool) := if a0_0 ≥ (-7) then (some (decide (a0_0 ≤ 7))) else (some false)
set_option maxHeartbeats 8000000 in
set_option maxRecDepth 100000 in
theorem key_Right.calls (a0_0 : Int) (a0_1 : Bool) (r : Bool) (w : World) (h : key_Right.f a0_0 a0_1 = some r) :
    Calls Tryd.prog 14 #[.agg #[.int .i64 a0_0, .bool a0_1]] w fun e w' => e = .returned (.bool r) ∧ Below w.heap.size w w' := by
  have hu23 := Tryd.underlying23
  have HB := Aside0.mk (Below.refl w.heap.size w)
  have H := h
  unfold key_Right.f at H
  clear h
  by_cases c2 : a0_0 ≥ (-7)
  · rw [if_pos c2] at H
    have c2b0 : decide ((-7) ≤ a0_0) = true := decide_eq_true c2
    clear c2
    obtain rfl := Option.some.inj H
    go_enter Tryd.func14, Tryd.ntmps14
    go_wp2_with (first | ((with_reducible refine gate_dst (N := 1) rfl ?_); refine box_event ?hg (N := 1) ?hd (cs := #[.int .i64 a0_0, .bool a0_1]) (t := 23) ?hr ?_; (case hd => rfl); (case hg => rfl); (case hr => exact qq8); intro gb101 hg w3 hbox hb; have BK101 := Aside0.mk (hbox); have GW101 := Aside0.mk ((qq7 : w.heap.size ≤ gb101)); have GE101 := Aside0.mk ((qq7 : w.heap.size ≤ gb101)); replace HB := Aside0.mk (below_step (qB HB.out) hb); clear hb hbox hg; obtain ⟨hcz4_0, hcz4_1, hfz4_0, hfz4_1⟩ := blk2 BK101.out))
    go_ret
    exact ⟨qq4, qS1 GE101 HB.out⟩
  · rw [if_neg c2] at H
    have c2b0 : decide ((-7) ≤ a0_0) = false := decide_eq_false c2
    clear c2
    obtain rfl := Option.some.inj H
    go_enter Tryd.func14, Tryd.ntmps14
    go_wp2_with (first | ((with_reducible refine gate_dst (N := 1) rfl ?_); refine box_event ?hg (N := 1) ?hd (cs := #[.int .i64 a0_0, .bool a0_1]) (t := 23) ?hr ?_; (case hd => rfl); (case hg => rfl); (case hr => exact qq8); intro gb101 hg w5 hbox hb; have BK101 := Aside0.mk (hbox); have GW101 := Aside0.mk ((qq7 : w.heap.size ≤ gb101)); have GE101 := Aside0.mk ((qq7 : w.heap.size ≤ gb101)); replace HB := Aside0.mk (below_step (qB HB.out) hb); clear hb hbox hg; obtain ⟨hcz6_0, hcz6_1, hfz6_0, hfz6_1⟩ := blk2 BK101.out))
    go_ret
    exact ⟨qq4, qS1 GE101 HB.out⟩
def key_down.f (a0 : Int) (a1 : Int) : Option (Int) := if a1 = 0 then (none) else (if (Int.tmod a0 a1) < 0 then (some (wrap64 ((wrap64 (Int.tdiv a0 a1)) - 1))) else (some (wrap64 (Int.tdiv a0 a1))))
set_option maxHeartbeats 8000000 in
set_option maxRecDepth 100000 in
theorem key_down.calls (a0 : Int) (a1 : Int) (r : Int) (w : World) (h : key_down.f a0 a1 = some r) :
    Calls Tryd.prog 47 #[.int .i64 a0, .int .i64 a1] w fun e w' => e = .returned (.int .i64 r) ∧ Drawn0 w w' := by
  have H := h
  unfold key_down.f at H
  clear h
  by_cases c3 : a1 = 0
  · rw [if_pos c3] at H
    exact absurd H (by simp)
  · rw [if_neg c3] at H
    have c3b0 : (a1 == 0) = false := beq_eq_false_iff_ne.mpr c3
    have c3b1 : (a1 != 0) = true := bne_iff_ne.mpr c3
    by_cases c4 : (Int.tmod a0 a1) < 0
    · rw [if_pos c4] at H
      have c4b0 : decide ((Int.tmod a0 a1) < 0) = true := decide_eq_true c4
      clear c4
      obtain rfl := Option.some.inj H
      go_enter Tryd.func47, Tryd.ntmps47
      go_wp2
      go_ret
      exact ⟨qq6, qq9⟩
    · rw [if_neg c4] at H
      have c4b0 : decide ((Int.tmod a0 a1) < 0) = false := decide_eq_false c4
      clear c4
      obtain rfl := Option.some.inj H
      go_enter Tryd.func47, Tryd.ntmps47
      go_wp2
      go_ret
      exact ⟨qq6, qq9⟩
def key_at.f (a0 : Int) : Option (Int × Int) := (key_down.f (wrap64 (a0 + 1)) 7).bind fun t102 => (some (Int.tmod (wrap64 ((Int.tmod (wrap64 (4 * a0)) 7) + 7)) 7, t102))
set_option maxHeartbeats 8000000 in
set_option maxRecDepth 100000 in
theorem key_at.calls (a0 : Int) (r1 : Int) (r2 : Int) (w : World) (h : key_at.f a0 = some (r1, r2)) :
    Calls Tryd.prog 31 #[.int .i64 a0] w fun e w' => e = .returned (.agg #[.int .i64 r1, .int .i64 r2]) ∧ Below w.heap.size w w' := by
  have hu51 := Tryd.underlying51
  have HB := Aside0.mk (Below.refl w.heap.size w)
  have H := h
  unfold key_at.f at H
  clear h
  replace H := Option.bind_eq_some_iff.mp H
  obtain ⟨t102, A20, H⟩ := H
  try dsimp -simprocs only at H
  have A2 := Aside0.mk A20
  clear A20
  simp only [Option.some.injEq, Prod.mk.injEq] at H
  obtain ⟨rfl, rfl⟩ := H
  go_enter Tryd.func31, Tryd.ntmps31
  go_wp2_with (first | ((with_reducible refine gate_dst (N := 2) rfl ?_); refine box_event ?hg (N := 2) ?hd (cs := #[.int .i64 0, .int .i64 0]) (t := 51) ?hr ?_; (case hd => rfl); (case hg => rfl); (case hr => exact qq8); intro gb101 hg w3 hbox hb; have BK101 := Aside0.mk (hbox); have GW101 := Aside0.mk ((qq7 : w.heap.size ≤ gb101)); have GE101 := Aside0.mk ((qq7 : w.heap.size ≤ gb101)); replace HB := Aside0.mk (below_step (qB HB.out) hb); clear hb hbox hg) | ((with_reducible refine gate_callee (f := 47) rfl ?_); refine goesL_ (some 10) rfl rfl Tryd.func47 (by kernel_rfl) rfl #[.int .i64 (wrap64 (a0 + 1)), .int .i64 7] rfl qq0 ?_; (with_reducible refine (key_down.calls (wrap64 (a0 + 1)) 7 t102 _ A2.out).mono ?_); rintro e w' ⟨rfl, ⟨nd, rfl⟩⟩; refine ⟨_, rfl, ?_⟩; (try (rw [drewN_self w3]; generalize hq_ : World.drewN w3 _ = w3; have n0_ : Aside0 (w3.heap[gb101]? = some (.cells #[.int .i64 0, .int .i64 0] 51 (0, 0))) := ⟨by rw [← hq_]; exact (bq BK101.out)⟩; have n1_ : Aside0 (Below w.heap.size w w3) := ⟨by rw [← hq_]; exact (qS1 GE101 HB.out)⟩; clear BK101 HB hq_; have BK101 := n0_; have HB := n1_; clear n0_ n1_)); obtain ⟨hcz4_0, hcz4_1, hfz4_0, hfz4_1⟩ := blk2 BK101.out))
  refine bodyPost_ret (results_cell_row rfl _ _ gb101 51 #[.int .i64 (Int.tmod (wrap64 ((Int.tmod (wrap64 (4 * a0)) 7) + 7)) 7), .int .i64 t102] (0, 0) _ rfl (by refine bq ?_; refine blk_put (cs := #[.int .i64 (Int.tmod (wrap64 ((Int.tmod (wrap64 (4 * a0)) 7) + 7)) 7), .int .i64 0]) ?_ 1 _ rfl; refine bq ?_; refine blk_put (cs := #[.int .i64 0, .int .i64 0]) ?_ 0 _ rfl; exact bq BK101.out) Tryd.underlying51 rfl (by kernel_rfl)) rfl ?_
  exact ⟨qq4, qS1 GE101 HB.out⟩
def key_tonic.f (a0_0 : Int) (a0_1 : Bool) : Option (Int × Int) := if a0_1 = true then ((key_at.f (wrap64 (a0_0 + 3))).bind fun bt103 => (some (bt103.1, bt103.2))) else ((key_at.f a0_0).bind fun bt105 => (some (bt105.1, bt105.2)))
set_option maxHeartbeats 8000000 in
set_option maxRecDepth 100000 in
theorem key_tonic.calls (a0_0 : Int) (a0_1 : Bool) (r1 : Int) (r2 : Int) (w : World) (h : key_tonic.f a0_0 a0_1 = some (r1, r2)) :
    Calls Tryd.prog 15 #[.agg #[.int .i64 a0_0, .bool a0_1]] w fun e w' => e = .returned (.agg #[.int .i64 r1, .int .i64 r2]) ∧ Below w.heap.size w w' := by
  have hu23 := Tryd.underlying23
  have hu51 := Tryd.underlying51
  have HB := Aside0.mk (Below.refl w.heap.size w)
  have H := h
  unfold key_tonic.f at H
  clear h
  by_cases c2 : a0_1 = true
  · subst c2
    have H1 : ((key_at.f (wrap64 (a0_0 + 3))).bind fun bt103 => (some (bt103.1, bt103.2))) = some (r1, r2) := by rw [if_pos rfl] at H; exact H
    clear H
    have H := H1
    clear H1
    replace H := Option.bind_eq_some_iff.mp H
    obtain ⟨⟨t103, t104⟩, A30, H⟩ := H
    try dsimp -simprocs only at H
    have A3 := Aside0.mk A30
    clear A30
    simp only [Option.some.injEq, Prod.mk.injEq] at H
    obtain ⟨rfl, rfl⟩ := H
    go_enter Tryd.func15, Tryd.ntmps15
    go_wp2_with (first | ((with_reducible refine gate_dst (N := 1) rfl ?_); refine box_event ?hg (N := 1) ?hd (cs := #[.int .i64 a0_0, .bool true]) (t := 23) ?hr ?_; (case hd => rfl); (case hg => rfl); (case hr => exact qq8); intro gb101 hg w4 hbox hb; have BK101 := Aside0.mk (hbox); have GW101 := Aside0.mk ((qq7 : w.heap.size ≤ gb101)); have GE101 := Aside0.mk ((qq7 : w.heap.size ≤ gb101)); replace HB := Aside0.mk (below_step (qB HB.out) hb); clear hb hbox hg) | ((with_reducible refine gate_dst (N := 2) rfl ?_); refine box_event ?hg (N := 2) ?hd (cs := #[.int .i64 0, .int .i64 0]) (t := 51) ?hr ?_; (case hd => rfl); (case hg => rfl); (case hr => exact qq8); intro gb102 hg w5 hbox hb; have BK102 := Aside0.mk (hbox); have GW102 := Aside0.mk ((qqe : w.heap.size ≤ gb102)); have GE102 := Aside0.mk ((qqe : w.heap.size ≤ gb102)); replace HB := Aside0.mk (below_step (qS1 GE101 HB.out) hb); have NB101_102 := Aside0.mk ((qqc : gb101 ≠ gb102)); have NB102_101 := Aside0.mk ((qqd : gb102 ≠ gb101)); replace BK101 := Aside0.mk (blk_below (bq BK101.out) hb); clear hb hbox hg; have hnb6 := NB101_102.out; have hnc6 := NB102_101.out; obtain ⟨hcz7_0, hcz7_1, hfz7_0, hfz7_1⟩ := blk2 BK101.out) | ((with_reducible refine gate_callee (f := 31) rfl ?_); refine goesL_ (some 8) rfl rfl Tryd.func31 (by kernel_rfl) rfl #[.int .i64 (wrap64 (a0_0 + 3))] rfl qq0 ?_; (with_reducible refine (key_at.calls (wrap64 (a0_0 + 3)) t103 t104 _ A3.out).mono ?_); rintro e w8 ⟨rfl, hb⟩; refine ⟨_, rfl, ?_⟩; replace BK101 := Aside0.mk (blk_below (bq BK101.out) hb); replace BK102 := Aside0.mk (blk_below (bq BK102.out) hb); replace HB := Aside0.mk (below_step (qS2 GE101 GE102 HB.out) hb); (try clear hb); (try clear hb2); (try clear hk); (try clear hi); obtain ⟨hcz9_0, hcz9_1, hfz9_0, hfz9_1⟩ := blk2 BK102.out))
    refine bodyPost_ret (results_cell_row rfl _ _ gb102 51 #[.int .i64 t103, .int .i64 t104] (0, 0) _ rfl (by refine bq ?_; refine blk_put (cs := #[.int .i64 t103, .int .i64 0]) ?_ 1 _ rfl; refine bq ?_; refine blk_put (cs := #[.int .i64 0, .int .i64 0]) ?_ 0 _ rfl; exact bq BK102.out) Tryd.underlying51 rfl (by kernel_rfl)) rfl ?_
    exact ⟨qq4, qS2 GE101 GE102 HB.out⟩
  replace c2 := Bool.eq_false_iff.mpr c2
  subst c2
  have H1 : ((key_at.f a0_0).bind fun bt105 => (some (bt105.1, bt105.2))) = some (r1, r2) := by rw [if_neg (show ¬ (false = true) by decide)] at H; exact H
  clear H
  have H := H1
  clear H1
  replace H := Option.bind_eq_some_iff.mp H
  obtain ⟨⟨t105, t106⟩, A100, H⟩ := H
  try dsimp -simprocs only at H
  have A10 := Aside0.mk A100
  clear A100
  simp only [Option.some.injEq, Prod.mk.injEq] at H
  obtain ⟨rfl, rfl⟩ := H
  go_enter Tryd.func15, Tryd.ntmps15
  go_wp2_with (first | ((with_reducible refine gate_dst (N := 1) rfl ?_); refine box_event ?hg (N := 1) ?hd (cs := #[.int .i64 a0_0, .bool false]) (t := 23) ?hr ?_; (case hd => rfl); (case hg => rfl); (case hr => exact qq8); intro gb101 hg w11 hbox hb; have BK101 := Aside0.mk (hbox); have GW101 := Aside0.mk ((qq7 : w.heap.size ≤ gb101)); have GE101 := Aside0.mk ((qq7 : w.heap.size ≤ gb101)); replace HB := Aside0.mk (below_step (qB HB.out) hb); clear hb hbox hg) | ((with_reducible refine gate_dst (N := 2) rfl ?_); refine box_event ?hg (N := 2) ?hd (cs := #[.int .i64 0, .int .i64 0]) (t := 51) ?hr ?_; (case hd => rfl); (case hg => rfl); (case hr => exact qq8); intro gb102 hg w12 hbox hb; have BK102 := Aside0.mk (hbox); have GW102 := Aside0.mk ((qqe : w.heap.size ≤ gb102)); have GE102 := Aside0.mk ((qqe : w.heap.size ≤ gb102)); replace HB := Aside0.mk (below_step (qS1 GE101 HB.out) hb); have NB101_102 := Aside0.mk ((qqc : gb101 ≠ gb102)); have NB102_101 := Aside0.mk ((qqd : gb102 ≠ gb101)); replace BK101 := Aside0.mk (blk_below (bq BK101.out) hb); clear hb hbox hg; have hnb13 := NB101_102.out; have hnc13 := NB102_101.out; obtain ⟨hcz14_0, hcz14_1, hfz14_0, hfz14_1⟩ := blk2 BK101.out) | ((with_reducible refine gate_callee (f := 31) rfl ?_); refine goesL_ (some 11) rfl rfl Tryd.func31 (by kernel_rfl) rfl #[.int .i64 a0_0] rfl qq0 ?_; (with_reducible refine (key_at.calls a0_0 t105 t106 _ A10.out).mono ?_); rintro e w15 ⟨rfl, hb⟩; refine ⟨_, rfl, ?_⟩; replace BK101 := Aside0.mk (blk_below (bq BK101.out) hb); replace BK102 := Aside0.mk (blk_below (bq BK102.out) hb); replace HB := Aside0.mk (below_step (qS2 GE101 GE102 HB.out) hb); (try clear hb); (try clear hb2); (try clear hk); (try clear hi); obtain ⟨hcz16_0, hcz16_1, hfz16_0, hfz16_1⟩ := blk2 BK102.out))
  refine bodyPost_ret (results_cell_row rfl _ _ gb102 51 #[.int .i64 t105, .int .i64 t106] (0, 0) _ rfl (by refine bq ?_; refine blk_put (cs := #[.int .i64 t105, .int .i64 0]) ?_ 1 _ rfl; refine bq ?_; refine blk_put (cs := #[.int .i64 0, .int .i64 0]) ?_ 0 _ rfl; exact bq BK102.out) Tryd.underlying51 rfl (by kernel_rfl)) rfl ?_
  exact ⟨qq4, qS2 GE101 GE102 HB.out⟩
end Go.Proofs.YtdmnknhlibaaoaaDoor.M
namespace Go.Proofs.YtdmnknhlibaaoaaDoor.M
open Go.RowKit Go.Shelf Go.Proofs.YtdmnknhlibaaoaaDoorW.PrintWords Go.Proofs.YtdmnknhlibaaoaaDoorW.PrintLast Go.Proofs.YtdmnknhlibaaoaaDoorW.PrintMore
attribute [local go_sem] Oper.semAt_some
set_option linter.unusedVariables false
set_option linter.unusedSimpArgs false
def spotAt (p : Int) : Int × Int := (key_at.f p).getD (0, 0)
theorem key_at_f (p : Int) : key_at.f p = some (spotAt p) := by
  unfold spotAt key_at.f key_down.f
  by_cases h : Int.tmod (wrap64 (p + 1)) 7 < 0 <;> simp [h]
def spots (f : Int) (k : Nat) : List (Int × Int) := (List.range k).map fun i : Nat => spotAt (f + i)
theorem spots_succ (f : Int) (k : Nat) : spots f (k + 1) = spots f k ++ [spotAt (f + k)] := by simp [spots, List.range_succ]
theorem spots_length (f : Int) (k : Nat) : (spots f k).length = k := by simp [spots]
theorem below_grown {A B : World} (h : Below A.heap.size A B) : A.grownBy B none := ⟨h.1, h.2, h.3, h.size, fun k hk _ => h.block k hk⟩
set_option maxRecDepth 100000 in
set_option maxHeartbeats 8000000 in
theorem line1_in (n l bf bt n0 : Nat) (f t : Int) (hf : -1000 ≤ f) (ht : t ≤ 1000) (hft : f ≤ t + 1) (hbt : bt < n0) (J Jx : List (Int × Int) → World → Prop) (W : World) (hn0 : n0 ≤ W.heap.size) (hJ' : AbidesFrom W.heap.size J)
    (hY : ∀ pre x W, J pre W → pre.length < (t + 1 - f).toNat → YieldAt Fence.wide (n - 1) Tryd.prog l #[.agg #[.int .i64 x.1, .int .i64 x.2]] W fun e W' =>
      (e = .returned (.bool true) ∧ J (pre ++ [x]) W' ∧ Below n0 W W') ∨ (e = .returned (.bool false) ∧ Jx (pre ++ [x]) W'))
    (hcf : W.cell? ⟨bf, 0, none⟩ = some (.int .i64 f)) (hct : W.cell? ⟨bt, 0, none⟩ = some (.int .i64 t)) (h0 : J [] W) :
    CallsIn Fence.wide n Tryd.prog 48 #[.func (.yield l) #[] #[], .pointer (some ⟨bf, 0, none⟩), .pointer (some ⟨bt, 0, none⟩)] W fun e W' => (∃ v, e = .returned v) ∧
      ((∃ ys, ys = spots f (t + 1 - f).toNat ∧ J ys W') ∨ (∃ pre, (∃ k, k < (t + 1 - f).toNat ∧ pre = spots f (k + 1)) ∧ Jx pre W')) := by
  refine callsIn_of_wp Tryd.func48 rfl trivial ?_ rfl
  simp only [Tryd.ntmps48, List.size_toArray, List.length_cons, List.length_nil, Nat.reduceAdd, Nat.reduceSub, Array.replicate_succ, Array.replicate_zero, List.push_toArray, List.append_toArray, List.nil_append, List.cons_append]
  gi_wp2
  gi_loopw [4] (fun i wr => ∃ k : Nat, k ≤ (t + 1 - f).toNat ∧ i = .int .i64 (f + k) ∧ J (spots f k) wr ∧ Below n0 W wr ∧ W.heap.size ≤ wr.heap.size)
    (fun i _ => (t + 1 - intOf i).toNat)
  case atStart => exact ⟨0, Nat.zero_le _, by simp, h0, Below.refl _ _, Nat.le_refl _⟩
  case round =>
    obtain ⟨k, hk, rfl, hJs, hnx, hsz⟩ := hrel
    have hcx : wr.cell? ⟨bt, 0, none⟩ = some (.int .i64 t) := (hnx.cell (p := ⟨bt, 0, none⟩) hbt).trans hct
    by_cases hlt : k < (t + 1 - f).toNat
    · have hle : decide (f + (k : Int) ≤ t) = true := decide_eq_true (by omega)
      have hw1 : wrap64 (f + (k : Int) + 1) = f + (k : Int) + 1 := by unfold wrap64; omega
      gi_wp2
      refine ⟨trivial, fun h => (by cases h), ?_⟩
      refine (callsIn_wide.2 (key_at.calls (f + (k : Int)) (spotAt (f + (k : Int))).1 (spotAt (f + (k : Int))).2 wr (key_at_f _))).mono ?_
      rintro e w1 ⟨rfl, hb1⟩
      have hJ1 : J (spots f k) w1 := hJ' _ _ _ none hJs (below_grown hb1) (fun r e => by cases e)
      obtain ⟨fn, tmps, assign, body, hy, hR⟩ := hY _ (spotAt (f + (k : Int))) w1 hJ1 (by rw [spots_length]; exact hlt)
      dsimp only
      gi_wp2
      refine ⟨fun h => (by cases h), hR.mono ?_⟩
      rintro e W3 (⟨rfl, hJ3, hk3⟩ | ⟨rfl, hJx3⟩)
      · gi_wp2
        go_roundw
        case rel => exact ⟨k + 1, by omega, by simp; omega, by rw [spots_succ]; exact hJ3, (hnx.trans (hb1.mono (Nat.le_trans hn0 hsz))).trans hk3, Nat.le_trans hsz (Nat.le_trans hb1.size hk3.size)⟩
        case measure => simp [intOf]; omega
      · gi_wp2
        go_end0
        exact ⟨⟨_, rfl⟩, .inr ⟨_, ⟨k, hlt, (spots_succ _ _).symm⟩, hJx3⟩⟩
    · obtain rfl : k = (t + 1 - f).toNat := by omega
      have hle : decide (f + (((t + 1 - f).toNat : Nat) : Int) ≤ t) = false := decide_eq_false (by omega)
      gi_wp2
      refine ⟨trivial, ?_⟩
      gi_wp2
      refine ⟨fun _ h => (by cases h), ?_⟩
      gi_wp2
      go_end0
      exact ⟨⟨_, rfl⟩, .inl ⟨_, rfl, hJs⟩⟩
theorem line_stops (n bf bt : Nat) (f t : Int) (hf : -1000 ≤ f) (ht : t ≤ 1000) (hft : f ≤ t + 1) (w : World) (hbf : bf < w.heap.size) (hbt : bt < w.heap.size) (hcf : w.cell? ⟨bf, 0, none⟩ = some (.int .i64 f)) (hct : w.cell? ⟨bt, 0, none⟩ = some (.int .i64 t)) :
    SeqStopsK Fence.wide n Tryd.prog 48 #[.pointer (some ⟨bf, 0, none⟩), .pointer (some ⟨bt, 0, none⟩)] (fun x : Int × Int => #[.agg #[.int .i64 x.1, .int .i64 x.2]]) (Below w.heap.size)
      (fun ys => ys = spots f (t + 1 - f).toNat) (fun pre => ∃ k, k < (t + 1 - f).toNat ∧ pre = spots f (k + 1)) (t + 1 - f).toNat w := fun l J Jx W hW hJ _ hY h0 =>
  line1_in n l bf bt w.heap.size f t hf ht hft hbt J Jx W hW.size hJ hY ((hW.cell (p := ⟨bf, 0, none⟩) hbf).trans hcf) ((hW.cell (p := ⟨bt, 0, none⟩) hbt).trans hct) h0
set_option maxRecDepth 100000 in
set_option maxHeartbeats 1000000 in
theorem line_any (f t : Int) (w : World) : Calls Tryd.prog 32 #[.int .i64 f, .int .i64 t] w fun e w' =>
    e = .returned (.func (.func 48) #[] #[.pointer (some ⟨w.heap.size, 0, none⟩), .pointer (some ⟨w.heap.size + 1, 0, none⟩)]) ∧ w' = (w.alloc (.cells #[.int .i64 f] 3)).alloc (.cells #[.int .i64 t] 3) := by
  go_enter Tryd.func32, Tryd.ntmps32
  go_wp2
  go_ret
  exact ⟨by simp, rfl⟩
theorem new_at {X : World} {m : Nat} {o : Obj} (h : X.heap.size = m) : (X.alloc o).heap[m]? = some o := by subst h; exact World.alloc_heap_new X o
def firstOf (a : Int) (l : List (Int × Int)) : Int := match l.find? (fun x => x.1 == a) with | some x => x.2 | none => 0
theorem firstOf_none {a : Int} {l : List (Int × Int)} (h : ∀ y ∈ l, (y.1 == a) = false) : firstOf a l = 0 := by
  unfold firstOf
  rw [List.find?_eq_none.mpr (fun y hy => by simp [h y hy])]
theorem firstOf_hit {a : Int} {l m : List (Int × Int)} {x : Int × Int} (h : ∀ y ∈ l, (y.1 == a) = false) (hx : (x.1 == a) = true) : firstOf a (l ++ x :: m) = x.2 := by
  unfold firstOf
  rw [List.find?_append, List.find?_eq_none.mpr (fun y hy => by simp [h y hy])]
  simp [List.find?, hx]
theorem spots_more (f : Int) (k : Nat) : ∀ d : Nat, ∃ m, spots f (k + d) = spots f k ++ m
  | 0 => ⟨[], by simp⟩
  | d + 1 => by
    obtain ⟨m, hm⟩ := spots_more f k d
    exact ⟨m ++ [spotAt (f + ((k + d : Nat) : Int))], by rw [← Nat.add_assoc, spots_succ, hm, List.append_assoc]⟩
def key_signed.f (a0_0 : Int) (a0_1 : Bool) (a1 : Int) : Option Int := if -100 ≤ a0_0 then (if a0_0 ≤ 100 then some (firstOf a1 (spots (a0_0 - 1) 7)) else none) else none
set_option maxRecDepth 100000 in
set_option maxHeartbeats 8000000 in
theorem key_signed.calls (a0_0 : Int) (a0_1 : Bool) (a1 : Int) (r : Int) (w : World) (h : key_signed.f a0_0 a0_1 a1 = some r) :
    Calls Tryd.prog 16 #[.agg #[.int .i64 a0_0, .bool a0_1], .int .i64 a1] w fun e w' => e = .returned (.int .i64 r) ∧ Below w.heap.size w w' := by
  have hu23 := Tryd.underlying23
  have hu51 := Tryd.underlying51
  unfold key_signed.f at h
  by_cases h1 : -100 ≤ a0_0
  case neg => rw [if_neg h1] at h; cases h
  by_cases h2 : a0_0 ≤ 100
  case neg => rw [if_pos h1, if_neg h2] at h; cases h
  rw [if_pos h1, if_pos h2] at h
  have HR := Aside0.mk (Option.some.inj h)
  have hw1 : wrap64 (a0_0 - 1) = a0_0 - 1 := by unfold wrap64; omega
  have hw5 : wrap64 (a0_0 + 5) = a0_0 + 5 := by unfold wrap64; omega
  clear h
  refine callsIn_wide.1 (callsIn_of_wp_marks (n := 5) Tryd.func16 rfl trivial ?_ rfl)
  simp only [Tryd.ntmps16, List.size_toArray, List.length_cons, List.length_nil, Nat.reduceAdd, Nat.reduceSub, Array.replicate_succ, Array.replicate_zero, List.push_toArray, List.append_toArray, List.nil_append, List.cons_append]
  refine wpIn_wide.2 ?_
  go_wp2_with ((with_reducible refine (line_any _ _ _).mono ?_); rintro e w1 ⟨rfl, rfl⟩)
  obtain ⟨w5, hw⟩ : ∃ w5, ((((w.alloc (.cells #[.int .i64 a0_0, .bool a0_1] 23)).alloc (.cells #[.int .i64 a1] 3)).alloc (.cells #[.int .i64 0] 3)).alloc (.cells #[.int .i64 (a0_0 - 1)] 3)).alloc (.cells #[.int .i64 (a0_0 + 5)] 3) = w5 := ⟨_, rfl⟩
  obtain ⟨n0, hn⟩ : ∃ n0, w.heap.size = n0 := ⟨_, rfl⟩
  have hs5 : w5.heap.size = n0 + 5 := by rw [← hw, ← hn]; simp
  have hB5 : Below n0 w w5 := by rw [← hw, ← hn]; repeat (first | exact Below.refl _ _ | apply below_alloc)
  have k1 : w5.heap[n0 + 1]? = some (.cells #[.int .i64 a1] 3) := by rw [← hw]; exact (blk_alloc (blk_alloc (blk_alloc (new_at (by simp [hn])) _) _) _)
  have k2 : w5.heap[n0 + 2]? = some (.cells #[.int .i64 0] 3) := by rw [← hw]; exact (blk_alloc (blk_alloc (new_at (by simp [hn])) _) _)
  have k3 : w5.heap[n0 + 3]? = some (.cells #[.int .i64 (a0_0 - 1)] 3) := by rw [← hw]; exact (blk_alloc (new_at (by simp [hn])) _)
  have k4 : w5.heap[n0 + 4]? = some (.cells #[.int .i64 (a0_0 + 5)] 3) := by rw [← hw]; exact (new_at (by simp [hn]))
  rw [hw, hn]
  clear hw
  have hm : (a0_0 + 5 + 1 - (a0_0 - 1)).toNat = 7 := by omega
  refine wpIn_wide.1 (wpIn_rangeFunc_ownH (F := Fence.wide) (n := 5) rfl (by decide) (gf := 48) (lb := #[.pointer (some ⟨n0 + 3, 0, none⟩), .pointer (some ⟨n0 + 4, 0, none⟩)]) rfl trivial (enters_of Tryd.func48 (by kernel_rfl) rfl)
    (line_stops (5 - 1) (n0 + 3) (n0 + 4) (a0_0 - 1) (a0_0 + 5) (by omega) (by omega) (by omega) w5 (by omega) (by omega) ((blk_cell k3 0).trans rfl) ((blk_cell k4 0).trans rfl)) belowK_t (belowK_b (Nat.le_refl _)) (Below.refl _ _) (fun _ => rfl)
    (fun pre W => (W.cell? ⟨n0 + 1, 0, none⟩ = some (.int .i64 a1) ∧ W.cell? ⟨n0 + 2, 0, none⟩ = some (.int .i64 0) ∧ W.frozen? ⟨n0 + 2, 0, none⟩ = false ∧ ∀ x ∈ pre, (x.1 == a1) = false) ∧ Below n0 w W ∧ w5.heap.size ≤ W.heap.size)
    (fun c pre W => (c = .ret ∧ W.cell? ⟨n0 + 2, 0, none⟩ = some (.int .i64 (firstOf a1 pre)) ∧ (∃ pre0 x, pre = pre0 ++ [x] ∧ (x.1 == a1) = true ∧ ∀ y ∈ pre0, (y.1 == a1) = false)) ∧ Below n0 w W)
    ?hI ?hIx ?h0
    (fun x a' W => ∃ Bx, w5.heap.size ≤ Bx ∧ W.heap[Bx]? = some (.cells #[.int .i64 x.1, .int .i64 x.2] 51) ∧ a' = { tmps := #[.agg #[.int .i64 a0_0, .bool a0_1], .int .i64 a1, .pointer (some ⟨n0, 0, none⟩), .pointer (some ⟨n0 + 1, 0, none⟩), .pointer (some ⟨n0 + 2, 0, none⟩), .pointer (some ⟨Bx, 0, none⟩), .pointer (some ⟨n0, 0, none⟩), .int .i64 a0_0, .int .i64 (a0_0 - 1), .pointer (some ⟨n0, 0, none⟩), .int .i64 a0_0, .int .i64 (a0_0 + 5), .func (.func 48) #[] #[.pointer (some ⟨n0 + 3, 0, none⟩), .pointer (some ⟨n0 + 4, 0, none⟩)], .agg #[.int .i64 x.1, .int .i64 x.2], undef, undef, undef, undef, undef, undef], defers := [] })
    ?hAx ?assign ?body ?done ?stop)
  case hI => exact OwnFrom.and (Own.from (fun s A B row hs hg hr => ⟨cell_kept hs.1 hg hr, cell_kept hs.2.1 hg hr, (frozen_kept hs.2.1 hg hr).trans hs.2.2.1, hs.2.2.2⟩) _) (OwnFrom.and (ownFrom_below (Nat.le_of_eq hn.symm) (by omega)) (fun s A B row hs hg hr => Nat.le_trans hs hg.size))
  case hIx => exact fun c => OwnFrom.and (Own.from (fun s A B row hs hg hr => ⟨hs.1, cell_kept hs.2.1 hg hr, hs.2.2⟩) _) (ownFrom_below (Nat.le_of_eq hn.symm) (by omega))
  case h0 => exact ⟨⟨(blk_cell k1 0).trans rfl, (blk_cell k2 0).trans rfl, blk_frozen k2 0, fun _ h => by cases h⟩, hB5, Nat.le_refl _⟩
  case hAx =>
    rintro x a' s A B row ⟨Bx, h1, h2, h3⟩ hg hr
    refine ⟨Bx, h1, (hg.block Bx (lt_of_block h2) (fun e => ?_)).trans h2, h3⟩
    obtain ⟨_, o, ho, hc⟩ := hr Bx e.symm
    rw [h2] at ho
    cases ho
    cases hc
  case assign =>
    intro l pre x W K hI hK
    gi_wp2
    have hg := fun o => World.grownBy_alloc W o none
    exact hK _ _ ((KeepsOthers.alloc _ _).from _) ((Below.refl _ W).alloc hI.2.2 _) ⟨⟨cell_kept hI.1.1 (hg _) (fun r e => by cases e), cell_kept hI.1.2.1 (hg _) (fun r e => by cases e), (frozen_kept hI.1.2.1 (hg _) (fun r e => by cases e)).trans hI.1.2.2.1, hI.1.2.2.2⟩, hI.2.1.alloc (by have := hI.2.1.size; omega) _, Nat.le_trans hI.2.2 (by simp)⟩ ⟨W.heap.size, hI.2.2, new_at rfl, rfl⟩
  case body =>
    rintro l pre x a' W hl hr ⟨⟨c1, c2, f2, hp⟩, hB, hsz⟩ ⟨Bx, hBx, bX, rfl⟩ hlen
    have cx0 : W.cell? ⟨Bx, 0, none⟩ = some (.int .i64 x.1) := (blk_cell bX 0).trans rfl
    have cx1 : W.cell? ⟨Bx, 1, none⟩ = some (.int .i64 x.2) := (blk_cell bX 1).trans rfl
    by_cases hx : (x.1 == a1) = true
    · gi_wp2
      exact ⟨(KeepsOthers.setCell _ _ _).from _, ⟨rfl, (World.cell?_setCell_same' _ _ _ (by rw [c2]; rfl)).trans (by rw [firstOf_hit hp hx]), pre, x, rfl, hx, hp⟩, hB.setCell (p := ⟨n0 + 2, 0, none⟩) (by simp) _⟩
    · replace hx := Bool.eq_false_iff.mpr hx
      gi_wp2
      exact ⟨KeepsFrom.refl _ _, Below.refl _ _, ⟨c1, c2, f2, fun y hy => by rcases List.mem_append.mp hy with h | h; exact hp y h; obtain rfl := List.mem_singleton.mp h; exact hx⟩, hB, hsz⟩
  case done =>
    rintro D xs W hD rfl ⟨⟨c1, c2, f2, hp⟩, hB, hsz⟩ hK
    rw [hm] at hp
    have hr0 := HR.out
    rw [firstOf_none hp] at hr0
    subst hr0
    gi_wp2
    go_wp2
    refine ⟨by simp, .inl ⟨_, _, rfl, run_takeDeferred ((KeepsOthers.setCell W ⟨n0 + 2, 0, none⟩ (.int .i64 0)).same D _ hK rfl), ?_⟩⟩
    have hK2 := (KeepsOthers.setCell W ⟨n0 + 2, 0, none⟩ (.int .i64 0)).same D _ hK rfl
    have c3 : (W.setCell ⟨n0 + 2, 0, none⟩ (.int .i64 0)).cell? ⟨n0 + 2, 0, none⟩ = some (.int .i64 0) := World.cell?_setCell_same' _ _ _ (by rw [c2]; rfl)
    have hc := cell_kept c3 (grownBy_putObj' _ D (.deferred none)) (fun r e => by cases e; exact ⟨_, hK2, rfl⟩)
    refine ⟨.int .i64 0, ?_, rfl, ?_⟩
    · simp [results, Tryd.results16, go_sem, hc]
    · rw [hn]
      exact (hB.setCell (p := ⟨n0 + 2, 0, none⟩) (by simp) _).trans (belowK_b (w := w5) (by omega) _ D _ _ hD hK2 rfl rfl)
  case stop =>
    rintro D c pre W hD ⟨k, hk, rfl⟩ ⟨⟨rfl, c2, pre0, x, hpre, hx, hp⟩, hB⟩ hK
    rw [hm] at hk
    have hr0 := HR.out
    obtain ⟨m, hm7⟩ := spots_more (a0_0 - 1) (k + 1) (6 - k)
    rw [show k + 1 + (6 - k) = 7 by omega, hpre, List.append_assoc, List.singleton_append] at hm7
    rw [hm7, firstOf_hit hp hx] at hr0
    rw [hpre, firstOf_hit hp hx, hr0] at c2
    gi_wp2
    refine ⟨by simp, .inl ⟨_, _, rfl, run_takeDeferred hK, ?_⟩⟩
    have hc := cell_kept c2 (grownBy_putObj' _ D (.deferred none)) (fun r e => by cases e; exact ⟨_, hK, rfl⟩)
    refine ⟨.int .i64 r, ?_, rfl, ?_⟩
    · simp [results, Tryd.results16, go_sem, hc]
    · rw [hn]
      exact hB.trans (belowK_b (w := w5) (by omega) _ D _ _ hD hK rfl rfl)
end Go.Proofs.YtdmnknhlibaaoaaDoor.M
namespace Go.Proofs.YtdmnknhlibaaoaaDoor.M
open Go.RowKit Go.Proofs.YtdmnknhlibaaoaaDoorW.PrintWords Go.Proofs.YtdmnknhlibaaoaaDoorW.PrintLast Go.Proofs.YtdmnknhlibaaoaaDoorW.PrintMore
attribute [local go_sem] max2_int min2_int max_two min_two max_three min_three max_four min_four
set_option linter.unusedVariables false
set_option linter.unusedSimpArgs false
theorem run_field51 (a b : Int) (W : World) : (Instr.field 51 (.agg #[.int .i64 a, .int .i64 b]) 0).run Tryd.prog W = .ok (.int .i64 a) W := by
  have h := Tryd.underlying51
  unfold Instr.field
  simp [run_underlying h, asAgg, part, go_sem]
def key_Scale.l0 : Nat → List (S37) → Int → Int → Int → Bool → Option ((List (S37)) × Int)
  | 0, _, _, _, _, _ => none
  | k + 1, x4, x12, x13, x102000, x102001 => if x13 < x12 then ((key_tonic.f x102000 x102001).bind fun bt106 => ((key_signed.f x102000 x102001 (Int.tmod (wrap64 (bt106.1 + x13)) 7)).bind fun t108 => (if 0 ≤ x13 then (if x13 < (x4.length : Int) then (key_Scale.l0 k (x4.set (x13 : Int).toNat (⟨Int.tmod (wrap64 (bt106.1 + x13)) 7, t108, wrap64 (4 + (wrap64 (Int.tdiv (wrap64 (bt106.1 + x13)) 7)))⟩ : S37)) x12 (wrap64 (x13 + 1)) x102000 x102001) else (none)) else (none)))) else (some (x4, 0))
def key_Scale.f (k : Nat) (a0_0 : Int) (a0_1 : Bool) : Option ((List (S37)) × Int) := (key_Right.f a0_0 a0_1).bind fun t102 => (if t102 = true then (if 7 ≤ 11728124029610 then ((some (List.replicate 7 z37 : List (S37))).bind fun y103 => (key_Scale.l0 k y103 (y103.length : Int) 0 a0_0 a0_1)) else (none)) else (some (([] : List (S37)), 30)))
theorem key_Scale.mono_l : ∀ k, (∀ y0 y1 y2 y3 y4, LeO (key_Scale.l0 k y0 y1 y2 y3 y4) (key_Scale.l0 (k + 1) y0 y1 y2 y3 y4))
  | 0 => fun _ _ _ _ _ r h => by simp [key_Scale.l0] at h
  | k + 1 => by
    have ih0 := key_Scale.mono_l k
    · intro y0 y1 y2 y3 y4
      unfold key_Scale.l0
      repeat' first
      | (with_reducible exact ih0 _ _ _ _ _)
      | (with_reducible exact LeO.refl _)
      | (with_reducible exact LeO.none _)
      | (with_reducible refine LeO.ite ?_ ?_)
      | (with_reducible refine LeO.bind ?_ (fun _ => ?_))
      | exact ih0 _ _ _ _ _
      | exact LeO.none _
      | refine LeO.ite ?_ ?_
      | refine LeO.bind ?_ (fun _ => ?_)
theorem key_Scale.mono : ∀ a0 a1 k, LeO (key_Scale.f k a0 a1) (key_Scale.f (k + 1) a0 a1) := by
  intro a0 a1 k
  have ih0 := key_Scale.mono_l k
  unfold key_Scale.f
  repeat' first
      | (with_reducible exact ih0 _ _ _ _ _)
      | (with_reducible exact LeO.refl _)
      | (with_reducible exact LeO.none _)
      | (with_reducible refine LeO.ite ?_ ?_)
      | (with_reducible refine LeO.bind ?_ (fun _ => ?_))
      | exact ih0 _ _ _ _ _
      | exact LeO.none _
      | refine LeO.ite ?_ ?_
      | refine LeO.bind ?_ (fun _ => ?_)
set_option maxHeartbeats 8000000 in
set_option maxRecDepth 100000 in
theorem key_Scale.calls (k : Nat) (a0_0 : Int) (a0_1 : Bool) (r1 : List (S37)) (r2 : Int) (w : World) (h : key_Scale.f k a0_0 a0_1 = some (r1, r2)) :
    Calls Tryd.prog 6 #[.agg #[.int .i64 a0_0, .bool a0_1]] w fun e w' => ∃ v0_ : Value, e = .returned (.tuple #[v0_, .int .i64 r2]) ∧ Kd.R k37 37 w' w.heap.size (fun _ => True) v0_ r1 ∧ Below w.heap.size w w' := by
  have hu23 := Tryd.underlying23
  have hu37 := Tryd.underlying37
  have hu51 := Tryd.underlying51
  have hfd : ∀ (a b : Int) (W : World), (Instr.field 51 (.agg #[.int .i64 a, .int .i64 b]) 0).run Tryd.prog W = .ok (.int .i64 a) W := run_field51
  have HB := Aside0.mk (Below.refl w.heap.size w)
  have H := h
  unfold key_Scale.f at H
  clear h
  replace H := Option.bind_eq_some_iff.mp H
  obtain ⟨t102, A20, H⟩ := H
  try dsimp -simprocs only at H
  have A2 := Aside0.mk A20
  clear A20
  by_cases c3 : t102 = true
  rotate_left
  · replace c3 := Bool.eq_false_iff.mpr c3
    subst c3
    have H1 : (some (([] : List (S37)), 30)) = some (r1, r2) := by rw [if_neg (show ¬ (false = true) by decide)] at H; exact H
    clear H
    have H := H1
    clear H1
    simp only [Option.some.injEq, Prod.mk.injEq] at H
    obtain ⟨rfl, rfl⟩ := H
    go_enter Tryd.func6, Tryd.ntmps6
    go_wp2_with (first | ((with_reducible refine gate_dst (N := 1) rfl ?_); refine box_event ?hg (N := 1) ?hd (cs := #[.int .i64 a0_0, .bool a0_1]) (t := 23) ?hr ?_; (case hd => rfl); (case hg => rfl); (case hr => exact qq8); intro gb101 hg w23 hbox hb; have BK101 := Aside0.mk (hbox); have GW101 := Aside0.mk ((qq7 : w.heap.size ≤ gb101)); have GE101 := Aside0.mk ((qq7 : w.heap.size ≤ gb101)); replace HB := Aside0.mk (below_step (qB HB.out) hb); clear hb hbox hg; obtain ⟨hcz24_0, hcz24_1, hfz24_0, hfz24_1⟩ := blk2 BK101.out) | ((with_reducible refine gate_callee (f := 14) rfl ?_); refine goesL_ (some 8) rfl rfl Tryd.func14 (by kernel_rfl) rfl #[.agg #[.int .i64 a0_0, .bool a0_1]] rfl qq0 ?_; (with_reducible refine (key_Right.calls a0_0 a0_1 false _ A2.out).mono ?_); rintro e w25 ⟨rfl, hb⟩; refine ⟨_, rfl, ?_⟩; replace BK101 := Aside0.mk (blk_below (bq BK101.out) hb); replace HB := Aside0.mk (below_step (qS1 GE101 HB.out) hb); (try clear hb); (try clear hb2); (try clear hk); (try clear hi)))
    go_ret2
    exact ⟨_, qq4, qqy, qS1 GE101 HB.out⟩
  subst c3
  have H1 : (if 7 ≤ 11728124029610 then ((some (List.replicate 7 z37 : List (S37))).bind fun y103 => (key_Scale.l0 k y103 (y103.length : Int) 0 a0_0 a0_1)) else (none)) = some (r1, r2) := by rw [if_pos rfl] at H; exact H
  clear H
  have H := H1
  clear H1
  by_cases c4 : 7 ≤ 11728124029610
  rotate_left
  · rw [if_neg c4] at H
    exact absurd H (by simp)
  rw [if_pos c4] at H
  have c4b0 := eq_true c4
  have c4b1 : decide (7 ≤ 11728124029610) = true := decide_eq_true c4
  clear c4
  obtain ⟨y103, hy103⟩ : ∃ y_ : List (S37), y_ = (List.replicate 7 z37) := ⟨_, rfl⟩
  replace H : (key_Scale.l0 k y103 (y103.length : Int) 0 a0_0 a0_1) = some (r1, r2) := by first | (rw [hy103]; with_reducible exact H) | (have H2_ := (Option.bind_some _ _).symm.trans H; rw [hy103]; with_reducible exact H2_) | (have H2_ := (Option.bind_some _ _).symm.trans H; with_reducible exact H2_) | with_reducible exact H | (rw [hy103]; exact H) | exact H
  have Ny103 := Aside0.mk hy103
  clear hy103
  have H' := Aside0.mk H
  clear H
  go_enter Tryd.func6, Tryd.ntmps6
  go_wp2_with (first | ((with_reducible refine gate_dst (N := 1) rfl ?_); refine box_event ?hg (N := 1) ?hd (cs := #[.int .i64 a0_0, .bool a0_1]) (t := 23) ?hr ?_; (case hd => rfl); (case hg => rfl); (case hr => exact qq8); intro gb101 hg w5 hbox hb; have BK101 := Aside0.mk (hbox); have GW101 := Aside0.mk ((qq7 : w.heap.size ≤ gb101)); have GE101 := Aside0.mk ((qq7 : w.heap.size ≤ gb101)); replace HB := Aside0.mk (below_step (qB HB.out) hb); clear hb hbox hg; obtain ⟨hcz6_0, hcz6_1, hfz6_0, hfz6_1⟩ := blk2 BK101.out) | ((with_reducible refine gate_callee (f := 14) rfl ?_); refine goesL_ (some 8) rfl rfl Tryd.func14 (by kernel_rfl) rfl #[.agg #[.int .i64 a0_0, .bool a0_1]] rfl qq0 ?_; (with_reducible refine (key_Right.calls a0_0 a0_1 true _ A2.out).mono ?_); rintro e w7 ⟨rfl, hb⟩; refine ⟨_, rfl, ?_⟩; replace BK101 := Aside0.mk (blk_below (bq BK101.out) hb); replace HB := Aside0.mk (below_step (qS1 GE101 HB.out) hb); (try clear hb); (try clear hb2); (try clear hk); (try clear hi)) | ((with_reducible refine gate_dst (N := 10) rfl ?_); refine Kd.R_make k37 _ 37 rfl (N := 10) rfl 26 _ _ rfl 7 rfl rfl Tryd.underlying26 (.agg #[(.int .i64 0), (.int .i64 0), (.int .i64 0)]) 24 info37 rfl (by decide) (by omega) z37 (ok := fun _ => True) (okp := fun _ => True) (k37_mkM _ _ _ z37 ) (fun _ hk => hk) trivial (by omega) (by omega) (Below.refl _ _) (Nat.le_refl _) ?_; intro v104 w8 ho9 hb hg_ hnew_; clear hg_ hnew_; (first | rw [← Ny103.out] at ho9 | (simp only [Int.reduceToNat] at ho9; rw [← Ny103.out] at ho9)); have HO105 := Aside0.mk (Kd.R_lower ho9 (below_size (qS1 GE101 HB.out))); replace BK101 := Aside0.mk (blk_below (bq BK101.out) hb); replace HB := Aside0.mk (below_step (qS1 GE101 HB.out) hb); clear hb ho9; obtain ⟨Ao10, co10, eo10⟩ := Kd.R_slice HO105.out; subst eo10))
  go_loopg [13] k (fun kq v13 w' => ∃ (x4_1 : List (S37)) (x13_1 : Int), v13 = .int .i64 x13_1 ∧ Aside0 (key_Scale.l0 kq x4_1 (y103.length : Int) x13_1 a0_0 a0_1 = some (r1, r2)) ∧ Aside0 (kq ≤ k) ∧ Aside0 (Kd.R k37 37 w' w.heap.size (fun _ => True) (.slice Ao10 y103.length co10) x4_1) ∧ Aside0 (w'.heap[gb101]? = some (.cells #[.int .i64 a0_0, .bool a0_1] 23 (0, 0))) ∧ Aside0 (Below w.heap.size w w'))
  case atStart => exact ⟨(y103), (0), qq6, H', ⟨Nat.le_refl _⟩, ⟨qR HO105.out⟩, ⟨bq BK101.out⟩, ⟨qS1 GE101 HB.out⟩⟩
  case round =>
    clear H'
    try clear c1
    try clear p2
    try clear c3
    try clear c4
    try clear c4b0
    try clear c4b1
    try clear c6
    try clear hcz6_0
    try clear hcz6_1
    try clear hfz6_0
    try clear hfz6_1
    obtain ⟨x4_1, x13_1, rfl, HA, HK1, HO_4, BK101, HB⟩ := hrel
    have hl4_1 := (Kd.R_reads' HO_4.out).1
    rw [hl4_1] at HO_4 HA
    (try simp only [hl4_1])
    (try simp only [hl4_1] at BK101)
    cases gk with
    | zero => exact absurd HA.out (by simp [key_Scale.l0])
    | succ k1 =>
      have H := HA.out
      clear HA
      simp only [key_Scale.l0] at H
      by_cases c11 : x13_1 < (x4_1.length : Int)
      rotate_left
      · rw [if_neg c11] at H
        have c11b0 : decide (x13_1 < (x4_1.length : Int)) = false := decide_eq_false c11
        clear c11
        simp only [Option.some.injEq, Prod.mk.injEq] at H
        obtain ⟨rfl, rfl⟩ := H
        go_wp2
        go_ret2
        exact ⟨_, qq4, by (with_reducible repeat (first | apply Kd.R_alloc | apply Kd.R_drewN | apply Kd.R_drew)); exact HO_4.out, qS1 GE101 HB.out⟩
      rw [if_pos c11] at H
      have c11b0 : decide (x13_1 < (x4_1.length : Int)) = true := decide_eq_true c11
      clear c11
      replace H := Option.bind_eq_some_iff.mp H
      obtain ⟨⟨t106, t107⟩, A120, H⟩ := H
      try dsimp -simprocs only at H
      have A12 := Aside0.mk A120
      clear A120
      replace H := Option.bind_eq_some_iff.mp H
      obtain ⟨t108, A130, H⟩ := H
      try dsimp -simprocs only at H
      have A13 := Aside0.mk A130
      clear A130
      by_cases c14 : 0 ≤ x13_1
      rotate_left
      · rw [if_neg c14] at H
        exact absurd H (by simp)
      rw [if_pos c14] at H
      have c14b0 : decide (0 ≤ x13_1) = true := decide_eq_true c14
      clear c14
      by_cases c15 : x13_1 < (x4_1.length : Int)
      rotate_left
      · rw [if_neg c15] at H
        exact absurd H (by simp)
      rw [if_pos c15] at H
      have c15b0 : decide (x13_1 < (x4_1.length : Int)) = true := decide_eq_true c15
      clear c15
      obtain ⟨y109, hy109⟩ : ∃ y_ : List (S37), y_ = (x4_1.set (x13_1 : Int).toNat (⟨Int.tmod (wrap64 (t106 + x13_1)) 7, t108, wrap64 (4 + (wrap64 (Int.tdiv (wrap64 (t106 + x13_1)) 7)))⟩ : S37)) := ⟨_, rfl⟩
      replace H : (key_Scale.l0 k1 y109 (x4_1.length : Int) (wrap64 (x13_1 + 1)) a0_0 a0_1) = some (r1, r2) := by first | (rw [hy109]; with_reducible exact H) | (have H2_ := (Option.bind_some _ _).symm.trans H; rw [hy109]; with_reducible exact H2_) | (have H2_ := (Option.bind_some _ _).symm.trans H; with_reducible exact H2_) | with_reducible exact H | (rw [hy109]; exact H) | exact H
      have Ny109 := Aside0.mk hy109
      clear hy109
      have H' := Aside0.mk H
      clear H
      obtain ⟨hcz17_0, hcz17_1, hfz17_0, hfz17_1⟩ := blk2 BK101.out
      go_wp2_with (first | ((with_reducible refine gate_callee (f := 15) rfl ?_); refine goesL_ (some 17) rfl rfl Tryd.func15 (by kernel_rfl) rfl #[.agg #[.int .i64 a0_0, .bool a0_1]] rfl qq0 ?_; (with_reducible refine (key_tonic.calls a0_0 a0_1 t106 t107 _ A12.out).mono ?_); rintro e w18 ⟨rfl, hb⟩; refine ⟨_, rfl, ?_⟩; replace HO_4 := Aside0.mk (Kd.R_below (qR HO_4.out) hb); replace BK101 := Aside0.mk (blk_below (bq BK101.out) hb); replace HB := Aside0.mk (below_step (qS1 GE101 HB.out) hb); (try clear hb); (try clear hb2); (try clear hk); (try clear hi); obtain ⟨hcz19_0, hcz19_1, hfz19_0, hfz19_1⟩ := blk2 BK101.out) | ((with_reducible refine gate_callee (f := 16) rfl ?_); refine goesL_ (some 28) rfl rfl Tryd.func16 (by kernel_rfl) rfl #[.agg #[.int .i64 a0_0, .bool a0_1], .int .i64 (Int.tmod (wrap64 (t106 + x13_1)) 7)] rfl qq0 ?_; (with_reducible refine (key_signed.calls a0_0 a0_1 (Int.tmod (wrap64 (t106 + x13_1)) 7) t108 _ A13.out).mono ?_); rintro e w20 ⟨rfl, hb⟩; refine ⟨_, rfl, ?_⟩; replace HO_4 := Aside0.mk (Kd.R_below (qR HO_4.out) hb); replace BK101 := Aside0.mk (blk_below (bq BK101.out) hb); replace HB := Aside0.mk (below_step (qS1 GE101 HB.out) hb); (try clear hb); (try clear hb2); (try clear hk); (try clear hi); have p16 : 0 ≤ (x13_1 : Int) := of_decide_eq_true qq3; have q16 : (x13_1 : Int) < ((x4_1.length : Int) : Int) := of_decide_eq_true qq3; obtain ⟨go16, co16, eo16, gb16, gl16, cl16, HG16⟩ := Kd.R_form HO_4.out (by omega); (first | cases eo16 | (injection eo16 with ea_ en_ ec_; (first | subst ea_ | (injection ea_ with ea_; subst ea_)); subst ec_; clear en_)); have GB16 := Aside0.mk gb16; have GG16 := Aside0.mk HG16; clear gb16 gl16 HG16; obtain ⟨ce16, hcl16, hM16, hcc16, hfr16⟩ := Kd.R_elem HO_4.out z37 (x13_1 : Int) p16 q16; obtain rfl := k37_openM hM16; have hx16_0 : w20.cell? ⟨go16, (x13_1 : Int).toNat * 3, none⟩ = some (.int .i64 ((rd_T37 x4_1 x13_1).f0)) := hcc16 0 _ rfl; have hx16_1 : w20.cell? ⟨go16, (x13_1 : Int).toNat * 3 + 1, none⟩ = some (.int .i64 ((rd_T37 x4_1 x13_1).f1)) := hcc16 1 _ rfl; have hx16_2 : w20.cell? ⟨go16, (x13_1 : Int).toNat * 3 + 2, none⟩ = some (.int .i64 ((rd_T37 x4_1 x13_1).f2)) := hcc16 2 _ rfl; have hf16_0 : w20.frozen? ⟨go16, (x13_1 : Int).toNat * 3, none⟩ = false := hfr16 0; have hf16_1 : w20.frozen? ⟨go16, (x13_1 : Int).toNat * 3 + 1, none⟩ = false := hfr16 1; have hf16_2 : w20.frozen? ⟨go16, (x13_1 : Int).toNat * 3 + 2, none⟩ = false := hfr16 2; clear hcl16 hcc16 hfr16 hM16; replace p16 := eq_true p16; replace q16 := eq_true q16; have HX21 := Aside0.mk (show Kd.R k37 37 w20 w.heap.size (fun _ => True) (.slice (some ⟨go16, 0, none⟩) x4_1.length co10) x4_1 from (qR HO_4.out)); obtain ⟨ce21, hcl21, hM21, hcc21, hfr21⟩ := Kd.R_elem HX21.out z37 (x13_1 : Int) (of_decide_eq_true qq3) qqE; obtain rfl := k37_openM hM21; have HP21 := Kd.R_seg HX21.out (x13_1 : Int) (of_decide_eq_true qq3) qqE (seg := [.int .i64 (Int.tmod (wrap64 (t106 + x13_1)) 7), .int .i64 t108, .int .i64 (wrap64 (4 + (wrap64 (Int.tdiv (wrap64 (t106 + x13_1)) 7))))]) (j := 0) hcl21 hcc21 (show 3 ≤ 3 from by decide) (x' := (⟨Int.tmod (wrap64 (t106 + x13_1)) 7, t108, wrap64 (4 + (wrap64 (Int.tdiv (wrap64 (t106 + x13_1)) 7)))⟩ : S37)) (k37_mkM _ _ _ (⟨Int.tmod (wrap64 (t106 + x13_1)) 7, t108, wrap64 (4 + (wrap64 (Int.tdiv (wrap64 (t106 + x13_1)) 7)))⟩ : S37) ) (fun _ hk => hk); have hx21_0 := hcc21 0 _ rfl; (try simp only [show (k37).sz = 3 from rfl, Nat.mul_one, Nat.add_zero] at hx21_0); have hf21_0 := hfr21 0; (try simp only [show (k37).sz = 3 from rfl, Nat.mul_one, Nat.add_zero] at hf21_0); have hx21_1 := hcc21 1 _ rfl; (try simp only [show (k37).sz = 3 from rfl, Nat.mul_one, Nat.add_zero] at hx21_1); have hf21_1 := hfr21 1; (try simp only [show (k37).sz = 3 from rfl, Nat.mul_one, Nat.add_zero] at hf21_1); have hx21_2 := hcc21 2 _ rfl; (try simp only [show (k37).sz = 3 from rfl, Nat.mul_one, Nat.add_zero] at hx21_2); have hf21_2 := hfr21 2; (try simp only [show (k37).sz = 3 from rfl, Nat.mul_one, Nat.add_zero] at hf21_2); clear hcl21 hcc21 hfr21 hM21) | ((with_reducible refine gate_store (t := 37) (p := 33) rfl ?_); refine store_event (t := 37) (p := 33) (v := ?vo_w22) (w1 := (((w20.setCell ⟨go16, (x13_1 : Int).toNat * 3, none⟩ (.int .i64 (Int.tmod (wrap64 (t106 + x13_1)) 7))).setCell ⟨go16, (x13_1 : Int).toNat * 3 + 1, none⟩ (.int .i64 t108)).setCell ⟨go16, (x13_1 : Int).toNat * 3 + 2, none⟩ (.int .i64 (wrap64 (4 + (wrap64 (Int.tdiv (wrap64 (t106 + x13_1)) 7))))))) ?hg ?ho ?hn ?hr ?_; (case ho => rfl); (case hg => rfl); (case hn => rfl); (case hr => exact qq8); intro w22 hw; have hg : w20.grownBy w22 (some go16) := (by rw [hw]; exact HP21.2); have hp_ : Kd.R k37 37 w22 w.heap.size (fun _ => True) (.slice (some ⟨go16, 0, none⟩) x4_1.length co10) y109 := (by rw [hw, Ny109.out]; exact HP21.1); clear HP21; replace BK101 := Aside0.mk (blk_grown (bq BK101.out) hg (Kd.R_ne HO_4.out BK101.out (by decide))); replace HO_4 := Aside0.mk (hp_); replace HB := Aside0.mk ((by rw [hw]; exact below_set (below_set (below_set (HB.out) GB16.out) GB16.out) GB16.out : Below w.heap.size w w22)); clear hg hw hp_))
      (try simp only [← hl4_1])
      go_roundg k1
      case measure => have := HK1.out; omega
      case rel => exact ⟨(y109), (wrap64 (x13_1 + 1)), qq6, ⟨by rw [hl4_1]; exact H'.out⟩, ⟨qqm⟩, ⟨by (try simp only [hl4_1]); (with_reducible repeat (first | apply Kd.R_alloc | apply Kd.R_drewN | apply Kd.R_drew)); exact HO_4.out⟩, ⟨by (try simp only [hl4_1]); (with_reducible repeat (first | refine blk_drewN ?_ _ | refine blk_drew ?_ | refine blk_alloc ?_ _)); exact BK101.out⟩, ⟨qS1 GE101 HB.out⟩⟩
end Go.Proofs.YtdmnknhlibaaoaaDoor.M
namespace Go.Proofs.YtdmnknhlibaaoaaDoor.M
open Go.RowKit Go.Proofs.YtdmnknhlibaaoaaDoorW.PrintWords Go.Proofs.YtdmnknhlibaaoaaDoorW.PrintLast Go.Proofs.YtdmnknhlibaaoaaDoorW.PrintMore
set_option linter.unusedVariables false
set_option linter.unusedSimpArgs false
def halfTab : List Int := [0, 2, 4, 5, 7, 9, 11]
def Glob (w : World) : Prop := ∀ i : Nat, i < 7 → w.cell? ⟨0, i, none⟩ = some (.int .i64 (halfTab.getD i 0))
theorem Glob.at {w w' : World} (h : Glob w) (hb : Below w.heap.size w w') : Glob w' := fun i hi => by
  have h0 := h i hi
  have hl : 0 < w.heap.size := by
    by_cases h1 : 0 < w.heap.size
    · exact h1
    · exfalso
      have : w.heap[0]? = none := Array.getElem?_eq_none_iff.mpr (by omega)
      simp [World.cell?, this] at h0
  exact (World.cell?_of_block (hb.block 0 hl)).trans h0
def pitch_number.f (a0_0 : Int) (a0_1 : Int) (a0_2 : Int) : Option (Int) := if 0 ≤ a0_0 then (if a0_0 < 7 then (some (wrap64 ((wrap64 ((wrap64 (12 * (wrap64 (a0_2 + 1)))) + halfTab.getD a0_0.toNat 0)) + a0_1))) else none) else none
set_option maxHeartbeats 8000000 in
set_option maxRecDepth 100000 in
theorem pitch_number.calls (a0_0 : Int) (a0_1 : Int) (a0_2 : Int) (r : Int) (w : World) (h : pitch_number.f a0_0 a0_1 a0_2 = some r) (hG : Glob w) :
    Calls Tryd.prog 18 #[.agg #[.int .i64 a0_0, .int .i64 a0_1, .int .i64 a0_2]] w fun e w' => e = .returned (.int .i64 r) ∧ Below w.heap.size w w' := by
  have hu37 := Tryd.underlying37
  have hu79 := Tryd.underlying79
  have HB := Aside0.mk (Below.refl w.heap.size w)
  unfold pitch_number.f at h
  by_cases h0 : 0 ≤ a0_0
  case neg => rw [if_neg h0] at h; cases h
  by_cases h7 : a0_0 < 7
  case neg => rw [if_pos h0, if_neg h7] at h; cases h
  rw [if_pos h0, if_pos h7] at h
  obtain ⟨tv, htv⟩ : ∃ tv, halfTab.getD a0_0.toNat 0 = tv := ⟨_, rfl⟩
  have hc0 := hG a0_0.toNat (by omega)
  rw [htv] at h hc0
  obtain rfl := Option.some.inj h
  obtain ⟨i, rfl⟩ : ∃ i : Nat, a0_0 = (i : Int) := ⟨a0_0.toNat, by omega⟩
  simp only [Int.toNat_natCast] at hc0 htv
  have hi : i < 7 := by omega
  clear h htv h7 h0
  go_enter Tryd.func18, Tryd.ntmps18
  go_wp2_with (first | ((with_reducible refine gate_dst (N := 1) rfl ?_); refine box_event ?hg (N := 1) ?hd (cs := #[.int .i64 (i : Int), .int .i64 a0_1, .int .i64 a0_2]) (t := 37) ?hr ?_; (case hd => rfl); (case hg => rfl); (case hr => exact qq8); intro gb101 hg w2 hbox hb; clear hg; have hc2 := Aside0.mk ((World.cell?_of_block (hb.block 0 (by by_cases h1 : 0 < w.heap.size; exact h1; exfalso; have : w.heap[0]? = none := Array.getElem?_eq_none_iff.mpr (by omega); simp [World.cell?, this] at hc0))).trans hc0); have n0_ := Aside0.mk (below_step HB.out hb); clear HB; have HB := n0_; have BK101 := Aside0.mk hbox; clear n0_; clear hb hbox; have hcz3_0 : w2.cell? ⟨gb101, 0, none⟩ = some (.int .i64 (i : Int)) := (blk_cell BK101.out 0).trans rfl; have hcz3_1 : w2.cell? ⟨gb101, 1, none⟩ = some (.int .i64 a0_1) := (blk_cell BK101.out 1).trans rfl; have hcz3_2 : w2.cell? ⟨gb101, 2, none⟩ = some (.int .i64 a0_2) := (blk_cell BK101.out 2).trans rfl; have hcz3_3 := hc2.out))
  have hi2 : (i : Int) < 7 := by omega
  have hi3 : (0 : Int) ≤ (i : Int) := by omega
  repeat (go_quiet (fail); try go_wp2)
  go_ret
  exact ⟨by first | rfl | (simp [*] <;> rfl), by repeat (first | (with_reducible first | exact HB.out | apply below_alloc | apply pw_below_drewN | apply below_drew1) | exact HB.out)⟩
end Go.Proofs.YtdmnknhlibaaoaaDoor.M
namespace Go.Proofs.YtdmnknhlibaaoaaDoor.M
open Go.RowKit Go.Proofs.YtdmnknhlibaaoaaDoorW.PrintWords Go.Proofs.YtdmnknhlibaaoaaDoorW.PrintLast Go.Proofs.YtdmnknhlibaaoaaDoorW.PrintMore
attribute [local go_sem] max2_int min2_int max_two min_two max_three min_three max_four min_four
set_option linter.unusedVariables false
set_option linter.unusedSimpArgs false
def pitch_Right.f (a0_0 : Int) (a0_1 : Int) (a0_2 : Int) : Option (Bool) := if a0_0 < 0 then (some false) else (if a0_0 ≥ 7 then (some false) else (if a0_2 < (-1) then (some false) else (if a0_2 > 9 then (some false) else (if a0_1 < (-2) then (some false) else (if a0_1 > 2 then (some false) else ((pitch_number.f a0_0 a0_1 a0_2).bind fun t102 => (if t102 ≥ 0 then (some (decide (t102 ≤ 127))) else (some false))))))))
set_option maxHeartbeats 8000000 in
set_option maxRecDepth 100000 in
theorem pitch_Right.calls (a0_0 : Int) (a0_1 : Int) (a0_2 : Int) (r : Bool) (w : World) (h : pitch_Right.f a0_0 a0_1 a0_2 = some r) (hG : Glob w) :
    Calls Tryd.prog 17 #[.agg #[.int .i64 a0_0, .int .i64 a0_1, .int .i64 a0_2]] w fun e w' => e = .returned (.bool r) ∧ Below w.heap.size w w' := by
  have hu37 := Tryd.underlying37
  have HB := Aside0.mk (Below.refl w.heap.size w)
  have H := h
  unfold pitch_Right.f at H
  clear h
  by_cases c2 : a0_0 < 0
  · rw [if_pos c2] at H
    have c2b0 : decide (a0_0 < 0) = true := decide_eq_true c2
    clear c2
    obtain rfl := Option.some.inj H
    go_enter Tryd.func17, Tryd.ntmps17
    go_wp2_with (first | ((with_reducible refine gate_dst (N := 1) rfl ?_); refine box_event ?hg (N := 1) ?hd (cs := #[.int .i64 a0_0, .int .i64 a0_1, .int .i64 a0_2]) (t := 37) ?hr ?_; (case hd => rfl); (case hg => rfl); (case hr => exact qq8); intro gb101 hg w3 hbox hb; have BK101 := Aside0.mk (hbox); have GW101 := Aside0.mk ((qq7 : w.heap.size ≤ gb101)); have GE101 := Aside0.mk ((qq7 : w.heap.size ≤ gb101)); replace HB := Aside0.mk (below_step (qB HB.out) hb); clear hb hbox hg; obtain ⟨hcz4_0, hcz4_1, hcz4_2, hfz4_0, hfz4_1, hfz4_2⟩ := blk3 BK101.out))
    go_ret
    exact ⟨qq4, qS1 GE101 HB.out⟩
  rw [if_neg c2] at H
  have c2b0 : decide (a0_0 < 0) = false := decide_eq_false c2
  clear c2
  by_cases c5 : a0_0 ≥ 7
  · rw [if_pos c5] at H
    have c5b0 : decide (7 ≤ a0_0) = true := decide_eq_true c5
    clear c5
    obtain rfl := Option.some.inj H
    go_enter Tryd.func17, Tryd.ntmps17
    go_wp2_with (first | ((with_reducible refine gate_dst (N := 1) rfl ?_); refine box_event ?hg (N := 1) ?hd (cs := #[.int .i64 a0_0, .int .i64 a0_1, .int .i64 a0_2]) (t := 37) ?hr ?_; (case hd => rfl); (case hg => rfl); (case hr => exact qq8); intro gb101 hg w6 hbox hb; have BK101 := Aside0.mk (hbox); have GW101 := Aside0.mk ((qq7 : w.heap.size ≤ gb101)); have GE101 := Aside0.mk ((qq7 : w.heap.size ≤ gb101)); replace HB := Aside0.mk (below_step (qB HB.out) hb); clear hb hbox hg; obtain ⟨hcz7_0, hcz7_1, hcz7_2, hfz7_0, hfz7_1, hfz7_2⟩ := blk3 BK101.out))
    go_ret
    exact ⟨qq4, qS1 GE101 HB.out⟩
  rw [if_neg c5] at H
  have c5b0 : decide (7 ≤ a0_0) = false := decide_eq_false c5
  clear c5
  by_cases c8 : a0_2 < (-1)
  · rw [if_pos c8] at H
    have c8b0 : decide (a0_2 < (-1)) = true := decide_eq_true c8
    clear c8
    obtain rfl := Option.some.inj H
    go_enter Tryd.func17, Tryd.ntmps17
    go_wp2_with (first | ((with_reducible refine gate_dst (N := 1) rfl ?_); refine box_event ?hg (N := 1) ?hd (cs := #[.int .i64 a0_0, .int .i64 a0_1, .int .i64 a0_2]) (t := 37) ?hr ?_; (case hd => rfl); (case hg => rfl); (case hr => exact qq8); intro gb101 hg w9 hbox hb; have BK101 := Aside0.mk (hbox); have GW101 := Aside0.mk ((qq7 : w.heap.size ≤ gb101)); have GE101 := Aside0.mk ((qq7 : w.heap.size ≤ gb101)); replace HB := Aside0.mk (below_step (qB HB.out) hb); clear hb hbox hg; obtain ⟨hcz10_0, hcz10_1, hcz10_2, hfz10_0, hfz10_1, hfz10_2⟩ := blk3 BK101.out))
    go_ret
    exact ⟨qq4, qS1 GE101 HB.out⟩
  rw [if_neg c8] at H
  have c8b0 : decide (a0_2 < (-1)) = false := decide_eq_false c8
  clear c8
  by_cases c11 : a0_2 > 9
  · rw [if_pos c11] at H
    have c11b0 : decide (9 < a0_2) = true := decide_eq_true c11
    clear c11
    obtain rfl := Option.some.inj H
    go_enter Tryd.func17, Tryd.ntmps17
    go_wp2_with (first | ((with_reducible refine gate_dst (N := 1) rfl ?_); refine box_event ?hg (N := 1) ?hd (cs := #[.int .i64 a0_0, .int .i64 a0_1, .int .i64 a0_2]) (t := 37) ?hr ?_; (case hd => rfl); (case hg => rfl); (case hr => exact qq8); intro gb101 hg w12 hbox hb; have BK101 := Aside0.mk (hbox); have GW101 := Aside0.mk ((qq7 : w.heap.size ≤ gb101)); have GE101 := Aside0.mk ((qq7 : w.heap.size ≤ gb101)); replace HB := Aside0.mk (below_step (qB HB.out) hb); clear hb hbox hg; obtain ⟨hcz13_0, hcz13_1, hcz13_2, hfz13_0, hfz13_1, hfz13_2⟩ := blk3 BK101.out))
    go_ret
    exact ⟨qq4, qS1 GE101 HB.out⟩
  rw [if_neg c11] at H
  have c11b0 : decide (9 < a0_2) = false := decide_eq_false c11
  clear c11
  by_cases c14 : a0_1 < (-2)
  · rw [if_pos c14] at H
    have c14b0 : decide (a0_1 < (-2)) = true := decide_eq_true c14
    clear c14
    obtain rfl := Option.some.inj H
    go_enter Tryd.func17, Tryd.ntmps17
    go_wp2_with (first | ((with_reducible refine gate_dst (N := 1) rfl ?_); refine box_event ?hg (N := 1) ?hd (cs := #[.int .i64 a0_0, .int .i64 a0_1, .int .i64 a0_2]) (t := 37) ?hr ?_; (case hd => rfl); (case hg => rfl); (case hr => exact qq8); intro gb101 hg w15 hbox hb; have BK101 := Aside0.mk (hbox); have GW101 := Aside0.mk ((qq7 : w.heap.size ≤ gb101)); have GE101 := Aside0.mk ((qq7 : w.heap.size ≤ gb101)); replace HB := Aside0.mk (below_step (qB HB.out) hb); clear hb hbox hg; obtain ⟨hcz16_0, hcz16_1, hcz16_2, hfz16_0, hfz16_1, hfz16_2⟩ := blk3 BK101.out))
    go_ret
    exact ⟨qq4, qS1 GE101 HB.out⟩
  rw [if_neg c14] at H
  have c14b0 : decide (a0_1 < (-2)) = false := decide_eq_false c14
  clear c14
  by_cases c17 : a0_1 > 2
  · rw [if_pos c17] at H
    have c17b0 : decide (2 < a0_1) = true := decide_eq_true c17
    clear c17
    obtain rfl := Option.some.inj H
    go_enter Tryd.func17, Tryd.ntmps17
    go_wp2_with (first | ((with_reducible refine gate_dst (N := 1) rfl ?_); refine box_event ?hg (N := 1) ?hd (cs := #[.int .i64 a0_0, .int .i64 a0_1, .int .i64 a0_2]) (t := 37) ?hr ?_; (case hd => rfl); (case hg => rfl); (case hr => exact qq8); intro gb101 hg w18 hbox hb; have BK101 := Aside0.mk (hbox); have GW101 := Aside0.mk ((qq7 : w.heap.size ≤ gb101)); have GE101 := Aside0.mk ((qq7 : w.heap.size ≤ gb101)); replace HB := Aside0.mk (below_step (qB HB.out) hb); clear hb hbox hg; obtain ⟨hcz19_0, hcz19_1, hcz19_2, hfz19_0, hfz19_1, hfz19_2⟩ := blk3 BK101.out))
    go_ret
    exact ⟨qq4, qS1 GE101 HB.out⟩
  rw [if_neg c17] at H
  have c17b0 : decide (2 < a0_1) = false := decide_eq_false c17
  clear c17
  replace H := Option.bind_eq_some_iff.mp H
  obtain ⟨t102, A200, H⟩ := H
  try dsimp -simprocs only at H
  have A20 := Aside0.mk A200
  clear A200
  by_cases c21 : t102 ≥ 0
  · rw [if_pos c21] at H
    have c21b0 : decide (0 ≤ t102) = true := decide_eq_true c21
    clear c21
    obtain rfl := Option.some.inj H
    go_enter Tryd.func17, Tryd.ntmps17
    go_wp2_with (first | ((with_reducible refine gate_dst (N := 1) rfl ?_); refine box_event ?hg (N := 1) ?hd (cs := #[.int .i64 a0_0, .int .i64 a0_1, .int .i64 a0_2]) (t := 37) ?hr ?_; (case hd => rfl); (case hg => rfl); (case hr => exact qq8); intro gb101 hg w22 hbox hb; have BK101 := Aside0.mk (hbox); have GW101 := Aside0.mk ((qq7 : w.heap.size ≤ gb101)); have GE101 := Aside0.mk ((qq7 : w.heap.size ≤ gb101)); replace HB := Aside0.mk (below_step (qB HB.out) hb); clear hb hbox hg; obtain ⟨hcz23_0, hcz23_1, hcz23_2, hfz23_0, hfz23_1, hfz23_2⟩ := blk3 BK101.out) | ((with_reducible refine gate_callee (f := 18) rfl ?_); refine goesL_ (some 33) rfl rfl Tryd.func18 (by kernel_rfl) rfl #[.agg #[.int .i64 a0_0, .int .i64 a0_1, .int .i64 a0_2]] rfl qq0 ?_; (with_reducible refine (pitch_number.calls a0_0 a0_1 a0_2 t102 _ A20.out ?sideG).mono ?_); (case sideG => exact Glob.at hG (qS1 GE101 HB.out)); rintro e w24 ⟨rfl, hb⟩; refine ⟨_, rfl, ?_⟩; replace BK101 := Aside0.mk (blk_below (bq BK101.out) hb); replace HB := Aside0.mk (below_step (qS1 GE101 HB.out) hb); (try clear hb); (try clear hb2); (try clear hk); (try clear hi)))
    go_ret
    exact ⟨qq4, qS1 GE101 HB.out⟩
  rw [if_neg c21] at H
  have c21b0 : decide (0 ≤ t102) = false := decide_eq_false c21
  clear c21
  obtain rfl := Option.some.inj H
  go_enter Tryd.func17, Tryd.ntmps17
  go_wp2_with (first | ((with_reducible refine gate_dst (N := 1) rfl ?_); refine box_event ?hg (N := 1) ?hd (cs := #[.int .i64 a0_0, .int .i64 a0_1, .int .i64 a0_2]) (t := 37) ?hr ?_; (case hd => rfl); (case hg => rfl); (case hr => exact qq8); intro gb101 hg w25 hbox hb; have BK101 := Aside0.mk (hbox); have GW101 := Aside0.mk ((qq7 : w.heap.size ≤ gb101)); have GE101 := Aside0.mk ((qq7 : w.heap.size ≤ gb101)); replace HB := Aside0.mk (below_step (qB HB.out) hb); clear hb hbox hg; obtain ⟨hcz26_0, hcz26_1, hcz26_2, hfz26_0, hfz26_1, hfz26_2⟩ := blk3 BK101.out) | ((with_reducible refine gate_callee (f := 18) rfl ?_); refine goesL_ (some 33) rfl rfl Tryd.func18 (by kernel_rfl) rfl #[.agg #[.int .i64 a0_0, .int .i64 a0_1, .int .i64 a0_2]] rfl qq0 ?_; (with_reducible refine (pitch_number.calls a0_0 a0_1 a0_2 t102 _ A20.out ?sideG).mono ?_); (case sideG => exact Glob.at hG (qS1 GE101 HB.out)); rintro e w27 ⟨rfl, hb⟩; refine ⟨_, rfl, ?_⟩; replace BK101 := Aside0.mk (blk_below (bq BK101.out) hb); replace HB := Aside0.mk (below_step (qS1 GE101 HB.out) hb); (try clear hb); (try clear hb2); (try clear hk); (try clear hi)))
  go_ret
  exact ⟨qq4, qS1 GE101 HB.out⟩
def pitch_Number.f (a0_0 : Int) (a0_1 : Int) (a0_2 : Int) : Option (Int × Int) := (pitch_Right.f a0_0 a0_1 a0_2).bind fun t102 => (if t102 = true then ((pitch_number.f a0_0 a0_1 a0_2).bind fun t103 => (some (t103, 0))) else (some (0, 20)))
set_option maxHeartbeats 8000000 in
set_option maxRecDepth 100000 in
theorem pitch_Number.calls (a0_0 : Int) (a0_1 : Int) (a0_2 : Int) (r1 : Int) (r2 : Int) (w : World) (h : pitch_Number.f a0_0 a0_1 a0_2 = some (r1, r2)) (hG : Glob w) :
    Calls Tryd.prog 7 #[.agg #[.int .i64 a0_0, .int .i64 a0_1, .int .i64 a0_2]] w fun e w' => e = .returned (.tuple #[.int .i64 r1, .int .i64 r2]) ∧ Below w.heap.size w w' := by
  have hu37 := Tryd.underlying37
  have HB := Aside0.mk (Below.refl w.heap.size w)
  have H := h
  unfold pitch_Number.f at H
  clear h
  replace H := Option.bind_eq_some_iff.mp H
  obtain ⟨t102, A20, H⟩ := H
  try dsimp -simprocs only at H
  have A2 := Aside0.mk A20
  clear A20
  by_cases c3 : t102 = true
  rotate_left
  · replace c3 := Bool.eq_false_iff.mpr c3
    subst c3
    have H1 : (some (0, 20)) = some (r1, r2) := by rw [if_neg (show ¬ (false = true) by decide)] at H; exact H
    clear H
    have H := H1
    clear H1
    simp only [Option.some.injEq, Prod.mk.injEq] at H
    obtain ⟨rfl, rfl⟩ := H
    go_enter Tryd.func7, Tryd.ntmps7
    go_wp2_with (first | ((with_reducible refine gate_dst (N := 1) rfl ?_); refine box_event ?hg (N := 1) ?hd (cs := #[.int .i64 a0_0, .int .i64 a0_1, .int .i64 a0_2]) (t := 37) ?hr ?_; (case hd => rfl); (case hg => rfl); (case hr => exact qq8); intro gb101 hg w10 hbox hb; have BK101 := Aside0.mk (hbox); have GW101 := Aside0.mk ((qq7 : w.heap.size ≤ gb101)); have GE101 := Aside0.mk ((qq7 : w.heap.size ≤ gb101)); replace HB := Aside0.mk (below_step (qB HB.out) hb); clear hb hbox hg; obtain ⟨hcz11_0, hcz11_1, hcz11_2, hfz11_0, hfz11_1, hfz11_2⟩ := blk3 BK101.out) | ((with_reducible refine gate_callee (f := 17) rfl ?_); refine goesL_ (some 5) rfl rfl Tryd.func17 (by kernel_rfl) rfl #[.agg #[.int .i64 a0_0, .int .i64 a0_1, .int .i64 a0_2]] rfl qq0 ?_; (with_reducible refine (pitch_Right.calls a0_0 a0_1 a0_2 false _ A2.out ?sideG).mono ?_); (case sideG => exact Glob.at hG (qS1 GE101 HB.out)); rintro e w12 ⟨rfl, hb⟩; refine ⟨_, rfl, ?_⟩; replace BK101 := Aside0.mk (blk_below (bq BK101.out) hb); replace HB := Aside0.mk (below_step (qS1 GE101 HB.out) hb); (try clear hb); (try clear hb2); (try clear hk); (try clear hi)))
    go_ret2
    exact ⟨qq4, qS1 GE101 HB.out⟩
  subst c3
  have H1 : ((pitch_number.f a0_0 a0_1 a0_2).bind fun t103 => (some (t103, 0))) = some (r1, r2) := by rw [if_pos rfl] at H; exact H
  clear H
  have H := H1
  clear H1
  replace H := Option.bind_eq_some_iff.mp H
  obtain ⟨t103, A40, H⟩ := H
  try dsimp -simprocs only at H
  have A4 := Aside0.mk A40
  clear A40
  simp only [Option.some.injEq, Prod.mk.injEq] at H
  obtain ⟨rfl, rfl⟩ := H
  go_enter Tryd.func7, Tryd.ntmps7
  go_wp2_with (first | ((with_reducible refine gate_dst (N := 1) rfl ?_); refine box_event ?hg (N := 1) ?hd (cs := #[.int .i64 a0_0, .int .i64 a0_1, .int .i64 a0_2]) (t := 37) ?hr ?_; (case hd => rfl); (case hg => rfl); (case hr => exact qq8); intro gb101 hg w5 hbox hb; have BK101 := Aside0.mk (hbox); have GW101 := Aside0.mk ((qq7 : w.heap.size ≤ gb101)); have GE101 := Aside0.mk ((qq7 : w.heap.size ≤ gb101)); replace HB := Aside0.mk (below_step (qB HB.out) hb); clear hb hbox hg; obtain ⟨hcz6_0, hcz6_1, hcz6_2, hfz6_0, hfz6_1, hfz6_2⟩ := blk3 BK101.out) | ((with_reducible refine gate_callee (f := 17) rfl ?_); refine goesL_ (some 5) rfl rfl Tryd.func17 (by kernel_rfl) rfl #[.agg #[.int .i64 a0_0, .int .i64 a0_1, .int .i64 a0_2]] rfl qq0 ?_; (with_reducible refine (pitch_Right.calls a0_0 a0_1 a0_2 true _ A2.out ?sideG).mono ?_); (case sideG => exact Glob.at hG (qS1 GE101 HB.out)); rintro e w7 ⟨rfl, hb⟩; refine ⟨_, rfl, ?_⟩; replace BK101 := Aside0.mk (blk_below (bq BK101.out) hb); replace HB := Aside0.mk (below_step (qS1 GE101 HB.out) hb); (try clear hb); (try clear hb2); (try clear hk); (try clear hi); obtain ⟨hcz8_0, hcz8_1, hcz8_2, hfz8_0, hfz8_1, hfz8_2⟩ := blk3 BK101.out) | ((with_reducible refine gate_callee (f := 18) rfl ?_); refine goesL_ (some 8) rfl rfl Tryd.func18 (by kernel_rfl) rfl #[.agg #[.int .i64 a0_0, .int .i64 a0_1, .int .i64 a0_2]] rfl qq0 ?_; (with_reducible refine (pitch_number.calls a0_0 a0_1 a0_2 t103 _ A4.out ?sideG).mono ?_); (case sideG => exact Glob.at hG (qS1 GE101 HB.out)); rintro e w9 ⟨rfl, hb⟩; refine ⟨_, rfl, ?_⟩; replace BK101 := Aside0.mk (blk_below (bq BK101.out) hb); replace HB := Aside0.mk (below_step (qS1 GE101 HB.out) hb); (try clear hb); (try clear hb2); (try clear hk); (try clear hi)))
  go_ret2
  exact ⟨qq4, qS1 GE101 HB.out⟩
end Go.Proofs.YtdmnknhlibaaoaaDoor.M
