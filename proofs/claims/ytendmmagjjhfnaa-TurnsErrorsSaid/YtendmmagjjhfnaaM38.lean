/- Printed by a program of this session (wip/tools), out of the translation: functions with the same answers as the Go code, and the contracts of the code. Lean checks it. -/
import Derived.Test.YtendmmagjjhfnaaM0
import Derived.Test.YtendmmagjjhfnaaM13
import Derived.Test.YtendmmagjjhfnaaM19
import Derived.Test.YtendmmagjjhfnaaM20
import Derived.Test.YtendmmagjjhfnaaM22
import Derived.Test.YtendmmagjjhfnaaM30
namespace Go.Proofs.Ytendmmagjjhfnaa.M
open Go.RowKit Go.Proofs.YtendmmagjjhfnaaW.PrintWords Go.Proofs.YtendmmagjjhfnaaW.PrintLast Go.Proofs.YtendmmagjjhfnaaW.PrintMore
attribute [local go_sem] max2_int min2_int max_two min_two max_three min_three max_four min_four   -- for this text's walks alone
set_option linter.unusedVariables false
set_option linter.unusedSimpArgs false

/-! ### partitalaw10_TurnsErrors: function 10 -/
def partitalaw10_TurnsErrors.j0 : Nat → Bool → List (S38) → Int → Option (Bool)
  | 0, _, _, _ => none
  | k + 1, x7, x9, x10 => (turns_Check.f k x9).bind fun bt504 => ((turns_Unfold.f k x9).bind fun bt506 => ((turns_Passes.f k x9).bind fun bt510 => (if x7 = true then (if bt504.1 = x10 then (if bt504.2 = 100 then (if bt506.2 = 100 then (if bt510.2 = 100 then (some ((wrap64 ((bt506.1.length : Int) + (bt510.1.length : Int))) == 0)) else (some false)) else (some false)) else (some false)) else (some false)) else (some false))))
def partitalaw10_TurnsErrors.g (k : Nat) (t465 : Bool) (t466 : List S38) (b : Int) (a1 : Int) (a2 : Int) : Option Bool := (if (Int.tmod a2 14) = 0 then (if 0 ≤ b then (if b < (t466.length : Int) then (partitalaw10_TurnsErrors.j0 k t465 (t466.set (b : Int).toNat (⟨(rd_T38 t466 b).f0, 1, (rd_T38 t466 b).f2, (rd_T38 t466 b).f3, (rd_T38 t466 b).f4, (rd_T38 t466 b).f5, (rd_T38 t466 b).f6, (rd_T38 t466 b).f7⟩ : S38)) b) else (none)) else (none)) else (if (Int.tmod a2 14) = 1 then (if 0 ≤ b then (if b < (t466.length : Int) then (partitalaw10_TurnsErrors.j0 k t465 (t466.set (b : Int).toNat (⟨(rd_T38 t466 b).f0, 10, (rd_T38 t466 b).f2, (rd_T38 t466 b).f3, (rd_T38 t466 b).f4, (rd_T38 t466 b).f5, (rd_T38 t466 b).f6, (rd_T38 t466 b).f7⟩ : S38)) b) else (none)) else (none)) else (if (Int.tmod a2 14) = 2 then (if 0 ≤ b then (if b < (t466.length : Int) then (partitalaw10_TurnsErrors.j0 k t465 (t466.set (b : Int).toNat (⟨(rd_T38 t466 b).f0, (-1), (rd_T38 t466 b).f2, (rd_T38 t466 b).f3, (rd_T38 t466 b).f4, (rd_T38 t466 b).f5, (rd_T38 t466 b).f6, (rd_T38 t466 b).f7⟩ : S38)) b) else (none)) else (none)) else (if (Int.tmod a2 14) = 3 then (if 0 ≤ b then (if b < (t466.length : Int) then (partitalaw10_TurnsErrors.j0 k t465 (t466.set (b : Int).toNat (⟨(rd_T38 t466 b).f0, (rd_T38 t466 b).f1, (([0] : List Int)), (rd_T38 t466 b).f3, (rd_T38 t466 b).f4, (rd_T38 t466 b).f5, (rd_T38 t466 b).f6, (rd_T38 t466 b).f7⟩ : S38)) b) else (none)) else (none)) else (if (Int.tmod a2 14) = 4 then (if 0 ≤ b then (if b < (t466.length : Int) then (partitalaw10_TurnsErrors.j0 k t465 (t466.set (b : Int).toNat (⟨(rd_T38 t466 b).f0, (rd_T38 t466 b).f1, (([10] : List Int)), (rd_T38 t466 b).f3, (rd_T38 t466 b).f4, (rd_T38 t466 b).f5, (rd_T38 t466 b).f6, (rd_T38 t466 b).f7⟩ : S38)) b) else (none)) else (none)) else (if (Int.tmod a2 14) = 5 then (if 0 ≤ b then (if b < (t466.length : Int) then (partitalaw10_TurnsErrors.j0 k t465 (t466.set (b : Int).toNat (⟨(rd_T38 t466 b).f0, (rd_T38 t466 b).f1, (([2, 2] : List Int)), (rd_T38 t466 b).f3, (rd_T38 t466 b).f4, (rd_T38 t466 b).f5, (rd_T38 t466 b).f6, (rd_T38 t466 b).f7⟩ : S38)) b) else (none)) else (none)) else (if (Int.tmod a2 14) = 6 then (if 0 ≤ b then (if b < (t466.length : Int) then (partitalaw10_TurnsErrors.j0 k t465 (t466.set (b : Int).toNat (⟨(rd_T38 t466 b).f0, (rd_T38 t466 b).f1, (([2, 1] : List Int)), (rd_T38 t466 b).f3, (rd_T38 t466 b).f4, (rd_T38 t466 b).f5, (rd_T38 t466 b).f6, (rd_T38 t466 b).f7⟩ : S38)) b) else (none)) else (none)) else (if (Int.tmod a2 14) = 7 then (if 0 ≤ b then (if b < (t466.length : Int) then (partitalaw10_TurnsErrors.j0 k t465 (t466.set (b : Int).toNat (⟨(rd_T38 t466 b).f0, (rd_T38 t466 b).f1, (rd_T38 t466 b).f2, (rd_T38 t466 b).f3, (rd_T38 t466 b).f4, (rd_T38 t466 b).f5, (rd_T38 t466 b).f6, 7⟩ : S38)) b) else (none)) else (none)) else (if (Int.tmod a2 14) = 8 then (if 0 < (t466.length : Int) then ((some (t466.set (0 : Int).toNat (⟨(rd_T38 t466 0).f0, (rd_T38 t466 0).f1, (rd_T38 t466 0).f2, true, (rd_T38 t466 0).f4, (rd_T38 t466 0).f5, (rd_T38 t466 0).f6, (rd_T38 t466 0).f7⟩ : S38) : List (S38))).bind fun y489 => (if 0 ≤ b then (if b < (t466.length : Int) then (partitalaw10_TurnsErrors.j0 k t465 (y489.set (b : Int).toNat (⟨(rd_T38 y489 b).f0, (rd_T38 y489 b).f1, (rd_T38 y489 b).f2, true, (rd_T38 y489 b).f4, (rd_T38 y489 b).f5, (rd_T38 y489 b).f6, (rd_T38 y489 b).f7⟩ : S38)) b) else (none)) else (none))) else (none)) else (if (Int.tmod a2 14) = 9 then (if 0 < (t466.length : Int) then ((some (t466.set (0 : Int).toNat (⟨(rd_T38 t466 0).f0, (rd_T38 t466 0).f1, (rd_T38 t466 0).f2, (rd_T38 t466 0).f3, true, (rd_T38 t466 0).f5, (rd_T38 t466 0).f6, (rd_T38 t466 0).f7⟩ : S38) : List (S38))).bind fun y491 => (if 0 ≤ b then (if b < (t466.length : Int) then (partitalaw10_TurnsErrors.j0 k t465 (y491.set (b : Int).toNat (⟨(rd_T38 y491 b).f0, (rd_T38 y491 b).f1, (rd_T38 y491 b).f2, (rd_T38 y491 b).f3, true, (rd_T38 y491 b).f5, (rd_T38 y491 b).f6, (rd_T38 y491 b).f7⟩ : S38)) b) else (none)) else (none))) else (none)) else (if (Int.tmod a2 14) = 10 then (if 0 < (t466.length : Int) then ((some (t466.set (0 : Int).toNat (⟨(rd_T38 t466 0).f0, (rd_T38 t466 0).f1, (rd_T38 t466 0).f2, (rd_T38 t466 0).f3, (rd_T38 t466 0).f4, (rd_T38 t466 0).f5, (rd_T38 t466 0).f6, 1⟩ : S38) : List (S38))).bind fun y493 => (if 0 ≤ b then (if b < (t466.length : Int) then (partitalaw10_TurnsErrors.j0 k t465 (y493.set (b : Int).toNat (⟨(rd_T38 y493 b).f0, (rd_T38 y493 b).f1, (rd_T38 y493 b).f2, (rd_T38 y493 b).f3, (rd_T38 y493 b).f4, (rd_T38 y493 b).f5, (rd_T38 y493 b).f6, 1⟩ : S38)) b) else (none)) else (none))) else (none)) else (if (Int.tmod a2 14) = 11 then (if 0 ≤ b then (if b < (t466.length : Int) then ((some (t466.set (b : Int).toNat (⟨(rd_T38 t466 b).f0, (rd_T38 t466 b).f1, (rd_T38 t466 b).f2, (rd_T38 t466 b).f3, (rd_T38 t466 b).f4, (rd_T38 t466 b).f5, (rd_T38 t466 b).f6, wrap64 (4 + (wrap64 (Int.tmod a1 3)))⟩ : S38) : List (S38))).bind fun y495 => (if 0 < (t466.length : Int) then ((some (y495.set (0 : Int).toNat (⟨(rd_T38 y495 0).f0, (rd_T38 y495 0).f1, (rd_T38 y495 0).f2, (rd_T38 y495 0).f3, (rd_T38 y495 0).f4, (rd_T38 y495 0).f5, true, (rd_T38 y495 0).f7⟩ : S38) : List (S38))).bind fun y496 => ((some (y496.set (0 : Int).toNat (⟨(rd_T38 y496 0).f0, (rd_T38 y496 0).f1, (rd_T38 y496 0).f2, (rd_T38 y496 0).f3, (rd_T38 y496 0).f4, true, (rd_T38 y496 0).f6, (rd_T38 y496 0).f7⟩ : S38) : List (S38))).bind fun y497 => (partitalaw10_TurnsErrors.j0 k t465 (y497.set (0 : Int).toNat (⟨(rd_T38 y497 0).f0, (rd_T38 y497 0).f1, (rd_T38 y497 0).f2, (rd_T38 y497 0).f3, true, (rd_T38 y497 0).f5, (rd_T38 y497 0).f6, (rd_T38 y497 0).f7⟩ : S38)) b))) else (none))) else (none)) else (none)) else (if (Int.tmod a2 14) = 12 then (if 0 ≤ b then (if b < (t466.length : Int) then ((some (t466.set (b : Int).toNat (⟨(rd_T38 t466 b).f0, (rd_T38 t466 b).f1, (rd_T38 t466 b).f2, (rd_T38 t466 b).f3, (rd_T38 t466 b).f4, (rd_T38 t466 b).f5, (rd_T38 t466 b).f6, 2⟩ : S38) : List (S38))).bind fun y499 => (if 0 < (t466.length : Int) then (partitalaw10_TurnsErrors.j0 k t465 (y499.set (0 : Int).toNat (⟨(rd_T38 y499 0).f0, (rd_T38 y499 0).f1, (rd_T38 y499 0).f2, true, (rd_T38 y499 0).f4, (rd_T38 y499 0).f5, (rd_T38 y499 0).f6, (rd_T38 y499 0).f7⟩ : S38)) b) else (none))) else (none)) else (none)) else (if (Int.tmod a2 14) = 13 then (if 0 ≤ b then (if b < (t466.length : Int) then ((some (t466.set (b : Int).toNat (⟨(rd_T38 t466 b).f0, (rd_T38 t466 b).f1, (rd_T38 t466 b).f2, (rd_T38 t466 b).f3, (rd_T38 t466 b).f4, (rd_T38 t466 b).f5, (rd_T38 t466 b).f6, 3⟩ : S38) : List (S38))).bind fun y501 => (if 0 < (t466.length : Int) then ((some (y501.set (0 : Int).toNat (⟨(rd_T38 y501 0).f0, (rd_T38 y501 0).f1, (rd_T38 y501 0).f2, (rd_T38 y501 0).f3, ((Int.tmod a1 2) == 0), (rd_T38 y501 0).f5, (rd_T38 y501 0).f6, (rd_T38 y501 0).f7⟩ : S38) : List (S38))).bind fun y502 => (partitalaw10_TurnsErrors.j0 k t465 (y502.set (0 : Int).toNat (⟨(rd_T38 y502 0).f0, (rd_T38 y502 0).f1, (rd_T38 y502 0).f2, (rd_T38 y502 0).f3, (rd_T38 y502 0).f4, ((Int.tmod a1 2) == 1), (rd_T38 y502 0).f6, (rd_T38 y502 0).f7⟩ : S38)) b)) else (none))) else (none)) else (none)) else (partitalaw10_TurnsErrors.j0 k t465 t466 b)))))))))))))))
def partitalaw10_TurnsErrors.f (k : Nat) (a0 : Int) (a1 : Int) (a2 : Int) : Option (Bool) := (partitalaw10_examples.f k).bind fun t465 => (if t465 = true then ((partitalaw10_many.f (wrap64 (2 + (wrap64 (Int.tmod a0 40))))).bind fun t466 => (if (wrap64 ((wrap64 (2 + (wrap64 (Int.tmod a0 40)))) - 1)) = 0 then (none) else (partitalaw10_TurnsErrors.g k t465 t466 (wrap64 (1 + (Int.tmod (wrap64 (a1)) (wrap64 ((wrap64 (2 + (wrap64 (Int.tmod a0 40)))) - 1))))) a1 a2))) else (some false))
theorem partitalaw10_TurnsErrors.mono_l : ∀ k, (∀ y0 y1 y2, LeO (partitalaw10_TurnsErrors.j0 k y0 y1 y2) (partitalaw10_TurnsErrors.j0 (k + 1) y0 y1 y2))
  | 0 => fun _ _ _ r h => by simp [partitalaw10_TurnsErrors.j0] at h
  | k + 1 => by
    have ih0 := partitalaw10_TurnsErrors.mono_l k
    · intro y0 y1 y2
      unfold partitalaw10_TurnsErrors.j0
      repeat' first
      | (with_reducible exact ih0 _ _ _)
      | (with_reducible exact partitalaw10_examples.mono _)
      | (with_reducible exact turns_Check.mono _ _)
      | (with_reducible exact turns_Passes.mono _ _)
      | (with_reducible exact turns_Unfold.mono _ _)
      | (with_reducible exact LeO.refl _)
      | (with_reducible exact LeO.none _)
      | (with_reducible refine LeO.ite ?_ ?_)
      | (with_reducible refine LeO.bind ?_ (fun _ => ?_))
      | exact ih0 _ _ _
      | exact partitalaw10_examples.mono _
      | exact turns_Check.mono _ _
      | exact turns_Passes.mono _ _
      | exact turns_Unfold.mono _ _
      | exact LeO.none _
      | refine LeO.ite ?_ ?_
      | refine LeO.bind ?_ (fun _ => ?_)
theorem partitalaw10_TurnsErrors.mono : ∀ a0 a1 a2 k, LeO (partitalaw10_TurnsErrors.f k a0 a1 a2) (partitalaw10_TurnsErrors.f (k + 1) a0 a1 a2) := by
  intro a0 a1 a2 k
  have ih0 := partitalaw10_TurnsErrors.mono_l k
  unfold partitalaw10_TurnsErrors.f partitalaw10_TurnsErrors.g
  repeat' first
      | (with_reducible exact ih0 _ _ _)
      | (with_reducible exact partitalaw10_examples.mono _)
      | (with_reducible exact turns_Check.mono _ _)
      | (with_reducible exact turns_Passes.mono _ _)
      | (with_reducible exact turns_Unfold.mono _ _)
      | (with_reducible exact LeO.refl _)
      | (with_reducible exact LeO.none _)
      | (with_reducible refine LeO.ite ?_ ?_)
      | (with_reducible refine LeO.bind ?_ (fun _ => ?_))
      | exact ih0 _ _ _
      | exact partitalaw10_examples.mono _
      | exact turns_Check.mono _ _
      | exact turns_Passes.mono _ _
      | exact turns_Unfold.mono _ _
      | exact LeO.none _
      | refine LeO.ite ?_ ?_
      | refine LeO.bind ?_ (fun _ => ?_)
set_option maxHeartbeats 8000000 in
set_option maxRecDepth 100000 in
theorem partitalaw10_TurnsErrors.calls (k : Nat) (a0 : Int) (a1 : Int) (a2 : Int) (r : Bool) (w : World) (h : partitalaw10_TurnsErrors.f k a0 a1 a2 = some r) :
    Calls Try.prog 10 #[.int .u8 a0, .int .u8 a1, .int .u8 a2] w fun e w' => e = .returned (.bool r) ∧ Below w.heap.size w w' := by
  have HB := Aside0.mk (Below.refl w.heap.size w)
  have H : ((partitalaw10_examples.f k).bind fun t465 => (if t465 = true then ((partitalaw10_many.f (wrap64 (2 + (wrap64 (Int.tmod a0 40))))).bind fun t466 => (if (wrap64 ((wrap64 (2 + (wrap64 (Int.tmod a0 40)))) - 1)) = 0 then (none) else (partitalaw10_TurnsErrors.g k t465 t466 (wrap64 (1 + (Int.tmod (wrap64 (a1)) (wrap64 ((wrap64 (2 + (wrap64 (Int.tmod a0 40)))) - 1))))) a1 a2))) else (some false))) = some r := h
  clear h
  replace H := Option.bind_eq_some_iff.mp H
  obtain ⟨t465, A40, H⟩ := H
  replace H : (if t465 = true then ((partitalaw10_many.f (wrap64 (2 + (wrap64 (Int.tmod a0 40))))).bind fun t466 => (if (wrap64 ((wrap64 (2 + (wrap64 (Int.tmod a0 40)))) - 1)) = 0 then (none) else (partitalaw10_TurnsErrors.g k t465 t466 (wrap64 (1 + (Int.tmod (wrap64 (a1)) (wrap64 ((wrap64 (2 + (wrap64 (Int.tmod a0 40)))) - 1))))) a1 a2))) else (some false)) = some r := H
  have A4 := Aside0.mk A40
  clear A40
  by_cases c5 : t465 = true
  · subst c5
    have H1 : ((partitalaw10_many.f (wrap64 (2 + (wrap64 (Int.tmod a0 40))))).bind fun t466 => (if (wrap64 ((wrap64 (2 + (wrap64 (Int.tmod a0 40)))) - 1)) = 0 then (none) else (partitalaw10_TurnsErrors.g k true t466 (wrap64 (1 + (Int.tmod (wrap64 (a1)) (wrap64 ((wrap64 (2 + (wrap64 (Int.tmod a0 40)))) - 1))))) a1 a2))) = some r := by rw [if_pos rfl] at H; exact H
    clear H
    have H := H1
    clear H1
    replace H := Option.bind_eq_some_iff.mp H
    obtain ⟨t466, A60, H⟩ := H
    replace H : (if (wrap64 ((wrap64 (2 + (wrap64 (Int.tmod a0 40)))) - 1)) = 0 then (none) else (partitalaw10_TurnsErrors.g k true t466 (wrap64 (1 + (Int.tmod (wrap64 (a1)) (wrap64 ((wrap64 (2 + (wrap64 (Int.tmod a0 40)))) - 1))))) a1 a2)) = some r := H
    have A6 := Aside0.mk A60
    clear A60
    by_cases c7 : (wrap64 ((wrap64 (2 + (wrap64 (Int.tmod a0 40)))) - 1)) = 0
    · rw [if_pos c7] at H
      exact absurd H (by simp)
    · rw [if_neg c7] at H
      have c7b0 : ((wrap64 ((wrap64 (2 + (wrap64 (Int.tmod a0 40)))) - 1)) == 0) = false := beq_eq_false_iff_ne.mpr c7
      have c7b1 : ((wrap64 ((wrap64 (2 + (wrap64 (Int.tmod a0 40)))) - 1)) != 0) = true := bne_iff_ne.mpr c7
      have HC8 := Aside0.mk H
      clear H
      go_enter Try.func10, Try.ntmps10
      go_upto_block 0 with (first | ((with_reducible refine gate_callee (f := 11) rfl ?_); refine goesL_ (some 17) rfl rfl Try.func11 (by kernel_rfl) rfl #[] rfl (by (try simp only [List.map_toArray, List.map_cons, List.map_nil]); first | done | rfl | (simp only [List.length_drop, List.length_take]; rfl)) ?_; (with_reducible refine (partitalaw10_examples.calls k  true _ A4.out).mono ?_); rintro e w9 ⟨rfl, hb⟩; refine ⟨_, rfl, ?_⟩; have n0_ := Aside0.mk (below_step (by repeat (first | (with_reducible first | exact HB.out | apply below_alloc | apply pw_below_drewN | apply below_drew1) | exact HB.out)) hb); clear HB; have HB := n0_; clear n0_; (try clear hb); (try clear hb2); (try clear hk); (try clear hi)) | ((with_reducible refine gate_callee (f := 20) rfl ?_); refine goesL_ (some 25) rfl rfl Try.func20 (by kernel_rfl) rfl #[.int .i64 (wrap64 (2 + (wrap64 (Int.tmod a0 40))))] rfl (by (try simp only [List.map_toArray, List.map_cons, List.map_nil]); first | done | rfl | (simp only [List.length_drop, List.length_take]; rfl)) ?_; (with_reducible refine (partitalaw10_many.calls (wrap64 (2 + (wrap64 (Int.tmod a0 40)))) t466 _ A6.out).mono ?_); rintro e w10 ⟨v467, rfl, ho0, hb⟩; refine ⟨_, rfl, ?_⟩; have n0_ := Aside0.mk (Kd.S_lower ho0 (below_size (by repeat (first | (with_reducible first | exact HB.out | apply below_alloc | apply pw_below_drewN | apply below_drew1) | exact HB.out)))); have n1_ := Aside0.mk (below_step (by repeat (first | (with_reducible first | exact HB.out | apply below_alloc | apply pw_below_drewN | apply below_drew1) | exact HB.out)) hb); clear HB; have HO468 := n0_; have HB := n1_; clear n0_ n1_; (try clear hb); (try clear hb2); (try clear hk); (try clear hi); (try clear ho0)))
      (try simp only [Act.put, List.setIfInBounds_toArray, List.set_cons_zero, List.set_cons_succ])
      go_cut [] (fun wc => ∃ (kq : Nat) (x9_7 : List (S38)), Aside0 (partitalaw10_TurnsErrors.j0 kq true x9_7 (wrap64 (1 + (Int.tmod (wrap64 (a1)) (wrap64 ((wrap64 (2 + (wrap64 (Int.tmod a0 40)))) - 1))))) = some r) ∧ Aside0 (kq ≤ k) ∧ Aside0 (Kd.S k38 38 wc w.heap.size (fun _ => True) v467 x9_7) ∧ Aside0 (Below w.heap.size w wc))
      case first =>
        have H := HC8.out
        clear HC8
        unfold partitalaw10_TurnsErrors.g at H
        by_cases c11 : (Int.tmod a2 14) = 0
        · rw [if_pos c11] at H
          have c11b0 : ((Int.tmod a2 14) == 0) = true := beq_iff_eq.mpr c11
          have c11b1 : ((Int.tmod a2 14) != 0) = false := bne_eq_false_iff_eq.mpr c11
          clear c11
          (first | rw [c11b0] | (simp only [i64_w, i32_w]; rw [c11b0]) | skip)
          obtain ⟨ji12, hji12⟩ : ∃ j_ : Int, (wrap64 (1 + (Int.tmod (wrap64 (a1)) (wrap64 ((wrap64 (2 + (wrap64 (Int.tmod a0 40)))) - 1))))) = j_ := ⟨_, rfl⟩
          replace H : (if 0 ≤ (ji12) then (if (ji12) < (t466.length : Int) then (partitalaw10_TurnsErrors.j0 k true (t466.set ((ji12) : Int).toNat (⟨(rd_T38 t466 (ji12)).f0, 1, (rd_T38 t466 (ji12)).f2, (rd_T38 t466 (ji12)).f3, (rd_T38 t466 (ji12)).f4, (rd_T38 t466 (ji12)).f5, (rd_T38 t466 (ji12)).f6, (rd_T38 t466 (ji12)).f7⟩ : S38)) ji12) else (none)) else (none)) = some r := by first | (rw [hji12] at H; exact H) | (simp only [hji12] at H ⊢; exact H)
          have hji12w : (IntKind.i64.wrap (1 + (Int.tmod (wrap64 (a1)) (wrap64 ((wrap64 (2 + (wrap64 (Int.tmod a0 40)))) - 1))))) = ji12 := (i64_w _).trans hji12
          by_cases c13 : 0 ≤ (ji12)
          · rw [if_pos c13] at H
            have c13b0 : decide (0 ≤ (ji12)) = true := decide_eq_true c13
            clear c13
            by_cases c14 : (ji12) < (t466.length : Int)
            · rw [if_pos c14] at H
              have c14b0 : decide ((ji12) < (t466.length : Int)) = true := decide_eq_true c14
              clear c14
              obtain ⟨y469, hy469⟩ : ∃ y_ : List (S38), y_ = (t466.set ((ji12) : Int).toNat (⟨(rd_T38 t466 (ji12)).f0, 1, (rd_T38 t466 (ji12)).f2, (rd_T38 t466 (ji12)).f3, (rd_T38 t466 (ji12)).f4, (rd_T38 t466 (ji12)).f5, (rd_T38 t466 (ji12)).f6, (rd_T38 t466 (ji12)).f7⟩ : S38)) := ⟨_, rfl⟩
              replace H : (partitalaw10_TurnsErrors.j0 k true y469 ji12) = some r := by first | (rw [hy469]; with_reducible exact H) | (have H2_ := (Option.bind_some _ _).symm.trans H; rw [hy469]; with_reducible exact H2_) | (have H2_ := (Option.bind_some _ _).symm.trans H; with_reducible exact H2_) | with_reducible exact H | (rw [hy469]; exact H) | exact H
              have Ny469 := Aside0.mk hy469
              clear hy469
              have H' := Aside0.mk H
              clear H
              have p15 : 0 ≤ ((ji12) : Int) := of_decide_eq_true (by first | (with_reducible assumption) | assumption)
              have q15 : ((ji12) : Int) < ((t466.length : Int) : Int) := of_decide_eq_true (by first | (with_reducible assumption) | assumption)
              obtain ⟨go15, co15, eo15, gb15, gl15, cl15, HG15⟩ := Kd.S_form HO468.out (by omega)
              (first | cases eo15 | (injection eo15 with ea_ en_ ec_; (first | subst ea_ | (injection ea_ with ea_; subst ea_)); subst ec_; clear en_))
              have GB15 := Aside0.mk gb15
              have GG15 := Aside0.mk HG15
              clear gb15 gl15 HG15
              obtain ⟨_, ce15, hcl15, hM15, hcc15, hfr15, _, _⟩ := Kd.S_elem HO468.out z38 ((ji12) : Int) p15 q15
              obtain ⟨ve15_2, rfl, ge15_2⟩ := k38_openM hM15
              have hx15_0 : w10.cell? ⟨go15, ((ji12) : Int).toNat * 8, none⟩ = some (.bool ((rd_T38 t466 (ji12)).f0)) := hcc15 0 _ rfl
              have hx15_1 : w10.cell? ⟨go15, ((ji12) : Int).toNat * 8 + 1, none⟩ = some (.int .i64 ((rd_T38 t466 (ji12)).f1)) := hcc15 1 _ rfl
              have hx15_2 : w10.cell? ⟨go15, ((ji12) : Int).toNat * 8 + 2, none⟩ = some (ve15_2) := hcc15 2 _ rfl
              have hx15_3 : w10.cell? ⟨go15, ((ji12) : Int).toNat * 8 + 3, none⟩ = some (.bool ((rd_T38 t466 (ji12)).f3)) := hcc15 3 _ rfl
              have hx15_4 : w10.cell? ⟨go15, ((ji12) : Int).toNat * 8 + 4, none⟩ = some (.bool ((rd_T38 t466 (ji12)).f4)) := hcc15 4 _ rfl
              have hx15_5 : w10.cell? ⟨go15, ((ji12) : Int).toNat * 8 + 5, none⟩ = some (.bool ((rd_T38 t466 (ji12)).f5)) := hcc15 5 _ rfl
              have hx15_6 : w10.cell? ⟨go15, ((ji12) : Int).toNat * 8 + 6, none⟩ = some (.bool ((rd_T38 t466 (ji12)).f6)) := hcc15 6 _ rfl
              have hx15_7 : w10.cell? ⟨go15, ((ji12) : Int).toNat * 8 + 7, none⟩ = some (.int .i64 ((rd_T38 t466 (ji12)).f7)) := hcc15 7 _ rfl
              have hf15_0 : w10.frozen? ⟨go15, ((ji12) : Int).toNat * 8, none⟩ = false := hfr15 0
              have hf15_1 : w10.frozen? ⟨go15, ((ji12) : Int).toNat * 8 + 1, none⟩ = false := hfr15 1
              have hf15_2 : w10.frozen? ⟨go15, ((ji12) : Int).toNat * 8 + 2, none⟩ = false := hfr15 2
              have hf15_3 : w10.frozen? ⟨go15, ((ji12) : Int).toNat * 8 + 3, none⟩ = false := hfr15 3
              have hf15_4 : w10.frozen? ⟨go15, ((ji12) : Int).toNat * 8 + 4, none⟩ = false := hfr15 4
              have hf15_5 : w10.frozen? ⟨go15, ((ji12) : Int).toNat * 8 + 5, none⟩ = false := hfr15 5
              have hf15_6 : w10.frozen? ⟨go15, ((ji12) : Int).toNat * 8 + 6, none⟩ = false := hfr15 6
              have hf15_7 : w10.frozen? ⟨go15, ((ji12) : Int).toNat * 8 + 7, none⟩ = false := hfr15 7
              clear hcl15 hcc15 hfr15 hM15
              replace p15 := eq_true p15
              replace q15 := eq_true q15
              have HX16 := Aside0.mk (show Kd.S k38 38 w10 w.heap.size (fun k_ => ((fun _ => True)) k_ ∧ ¬ ((fun _ => False)) k_) (.slice (some ⟨go15, 0, none⟩) t466.length co15) t466 from (by (with_reducible repeat (first | apply Kd.S_alloc | apply Kd.S_drewN | apply Kd.S_drew)); exact Kd.S_mono HO468.out (fun k_ hk => ⟨trivial, fun e_ => e_⟩)))
              obtain ⟨oki16, ce16, hcl16, hM16, hcc16, hfr16, hoki16, hH16⟩ := Kd.S_elem HX16.out z38 ((ji12) : Int) (of_decide_eq_true (by first | (with_reducible assumption) | assumption)) (by have h_ : ((ji12) : Int) < ((t466.length : Int) : Int) := of_decide_eq_true (by first | (with_reducible assumption) | assumption); first | exact h_ | (have e_ := (Kd.S_reads' HO468.out).1; omega) | simpa using h_)
              obtain ⟨ve16_2, rfl, ge16_2⟩ := k38_openM hM16
              have HP16 := Kd.S_seg hH16 (of_decide_eq_true (by first | (with_reducible assumption) | assumption)) (by have h_ : ((ji12) : Int) < ((t466.length : Int) : Int) := of_decide_eq_true (by first | (with_reducible assumption) | assumption); first | exact h_ | (have e_ := (Kd.S_reads' HO468.out).1; omega) | simpa using h_) (seg := [.int .i64 1]) (j := 1) (show 2 ≤ 8 from by decide) (x' := (⟨(rd_T38 t466 (ji12)).f0, 1, (rd_T38 t466 (ji12)).f2, (rd_T38 t466 (ji12)).f3, (rd_T38 t466 (ji12)).f4, (rd_T38 t466 (ji12)).f5, (rd_T38 t466 (ji12)).f6, (rd_T38 t466 (ji12)).f7⟩ : S38)) (k38_mkM _ _ _ (⟨(rd_T38 t466 (ji12)).f0, 1, (rd_T38 t466 (ji12)).f2, (rd_T38 t466 (ji12)).f3, (rd_T38 t466 (ji12)).f4, (rd_T38 t466 (ji12)).f5, (rd_T38 t466 (ji12)).f6, (rd_T38 t466 (ji12)).f7⟩ : S38) (Kd.R_mono ge16_2 (fun _ h_ => Or.inl h_))) (fun _ hk => hk) (fun k_ hk_ => hk_.elim)
              have hx16_1 := hcc16 1 _ rfl
              (try simp only [show (k38).sz = 8 from rfl, Nat.mul_one, Nat.add_zero] at hx16_1)
              have hf16_1 := hfr16 1
              (try simp only [show (k38).sz = 8 from rfl, Nat.mul_one, Nat.add_zero] at hf16_1)
              clear hcl16 hcc16 hfr16 hM16 hoki16 hH16
              go_wp2_with (first | ((with_reducible refine gate_store (t := 3) (p := 39) rfl ?_); refine store_event (t := 3) (p := 39) (v := ?vo_w17) (w1 := (w10.setCell ⟨go15, ((ji12) : Int).toNat * 8 + 1, none⟩ (.int .i64 1))) ?hg ?ho ?hn ?hr ?_; (case ho => rfl); (case hg => rfl); (case hn => rfl); (case hr => first | (go_simp; done) | (go_simp; rfl)); intro w17 hw; have hg : w10.grownBy w17 (some go15) := (by rw [hw]; exact HP16.2); have hp_ : Kd.S k38 38 w17 w.heap.size (fun _ => True) (.slice (some ⟨go15, 0, none⟩) t466.length co15) y469 := (by rw [hw, Ny469.out]; exact HP16.1); clear HP16; have n0_ := Aside0.mk (hp_); have n1_ := Aside0.mk ((by rw [hw]; exact below_set (HB.out) GB15.out : Below w.heap.size w w17)); clear HO468; clear HB; have HO468 := n0_; have HB := n1_; clear n0_ n1_; clear hg hw hp_))
              subst hji12
              go_meet
              case rel => exact ⟨_, (y469), H', ⟨by first | omega | exact Nat.le_refl _⟩, ⟨by (with_reducible repeat (first | apply Kd.S_alloc | apply Kd.S_drewN | apply Kd.S_drew)); exact HO468.out⟩, ⟨by repeat (first | (with_reducible first | exact HB.out | apply below_alloc | apply pw_below_drewN | apply below_drew1) | exact HB.out)⟩⟩
            · rw [if_neg c14] at H
              exact absurd H (by simp)
          · rw [if_neg c13] at H
            exact absurd H (by simp)
        · rw [if_neg c11] at H
          have c11b0 : ((Int.tmod a2 14) == 0) = false := beq_eq_false_iff_ne.mpr c11
          have c11b1 : ((Int.tmod a2 14) != 0) = true := bne_iff_ne.mpr c11
          (first | rw [c11b0] | (simp only [i64_w, i32_w]; rw [c11b0]) | skip)
          by_cases c18 : (Int.tmod a2 14) = 1
          · rw [if_pos c18] at H
            have c18b0 : ((Int.tmod a2 14) == 1) = true := beq_iff_eq.mpr c18
            have c18b1 : ((Int.tmod a2 14) != 1) = false := bne_eq_false_iff_eq.mpr c18
            clear c18
            obtain ⟨ji19, hji19⟩ : ∃ j_ : Int, (wrap64 (1 + (Int.tmod (wrap64 (a1)) (wrap64 ((wrap64 (2 + (wrap64 (Int.tmod a0 40)))) - 1))))) = j_ := ⟨_, rfl⟩
            replace H : (if 0 ≤ (ji19) then (if (ji19) < (t466.length : Int) then (partitalaw10_TurnsErrors.j0 k true (t466.set ((ji19) : Int).toNat (⟨(rd_T38 t466 (ji19)).f0, 10, (rd_T38 t466 (ji19)).f2, (rd_T38 t466 (ji19)).f3, (rd_T38 t466 (ji19)).f4, (rd_T38 t466 (ji19)).f5, (rd_T38 t466 (ji19)).f6, (rd_T38 t466 (ji19)).f7⟩ : S38)) ji19) else (none)) else (none)) = some r := by first | (rw [hji19] at H; exact H) | (simp only [hji19] at H ⊢; exact H)
            have hji19w : (IntKind.i64.wrap (1 + (Int.tmod (wrap64 (a1)) (wrap64 ((wrap64 (2 + (wrap64 (Int.tmod a0 40)))) - 1))))) = ji19 := (i64_w _).trans hji19
            by_cases c20 : 0 ≤ (ji19)
            · rw [if_pos c20] at H
              have c20b0 : decide (0 ≤ (ji19)) = true := decide_eq_true c20
              clear c20
              by_cases c21 : (ji19) < (t466.length : Int)
              · rw [if_pos c21] at H
                have c21b0 : decide ((ji19) < (t466.length : Int)) = true := decide_eq_true c21
                clear c21
                obtain ⟨y470, hy470⟩ : ∃ y_ : List (S38), y_ = (t466.set ((ji19) : Int).toNat (⟨(rd_T38 t466 (ji19)).f0, 10, (rd_T38 t466 (ji19)).f2, (rd_T38 t466 (ji19)).f3, (rd_T38 t466 (ji19)).f4, (rd_T38 t466 (ji19)).f5, (rd_T38 t466 (ji19)).f6, (rd_T38 t466 (ji19)).f7⟩ : S38)) := ⟨_, rfl⟩
                replace H : (partitalaw10_TurnsErrors.j0 k true y470 ji19) = some r := by first | (rw [hy470]; with_reducible exact H) | (have H2_ := (Option.bind_some _ _).symm.trans H; rw [hy470]; with_reducible exact H2_) | (have H2_ := (Option.bind_some _ _).symm.trans H; with_reducible exact H2_) | with_reducible exact H | (rw [hy470]; exact H) | exact H
                have Ny470 := Aside0.mk hy470
                clear hy470
                have H' := Aside0.mk H
                clear H
                have p22 : 0 ≤ ((ji19) : Int) := of_decide_eq_true (by first | (with_reducible assumption) | assumption)
                have q22 : ((ji19) : Int) < ((t466.length : Int) : Int) := of_decide_eq_true (by first | (with_reducible assumption) | assumption)
                obtain ⟨go22, co22, eo22, gb22, gl22, cl22, HG22⟩ := Kd.S_form HO468.out (by omega)
                (first | cases eo22 | (injection eo22 with ea_ en_ ec_; (first | subst ea_ | (injection ea_ with ea_; subst ea_)); subst ec_; clear en_))
                have GB22 := Aside0.mk gb22
                have GG22 := Aside0.mk HG22
                clear gb22 gl22 HG22
                obtain ⟨_, ce22, hcl22, hM22, hcc22, hfr22, _, _⟩ := Kd.S_elem HO468.out z38 ((ji19) : Int) p22 q22
                obtain ⟨ve22_2, rfl, ge22_2⟩ := k38_openM hM22
                have hx22_0 : w10.cell? ⟨go22, ((ji19) : Int).toNat * 8, none⟩ = some (.bool ((rd_T38 t466 (ji19)).f0)) := hcc22 0 _ rfl
                have hx22_1 : w10.cell? ⟨go22, ((ji19) : Int).toNat * 8 + 1, none⟩ = some (.int .i64 ((rd_T38 t466 (ji19)).f1)) := hcc22 1 _ rfl
                have hx22_2 : w10.cell? ⟨go22, ((ji19) : Int).toNat * 8 + 2, none⟩ = some (ve22_2) := hcc22 2 _ rfl
                have hx22_3 : w10.cell? ⟨go22, ((ji19) : Int).toNat * 8 + 3, none⟩ = some (.bool ((rd_T38 t466 (ji19)).f3)) := hcc22 3 _ rfl
                have hx22_4 : w10.cell? ⟨go22, ((ji19) : Int).toNat * 8 + 4, none⟩ = some (.bool ((rd_T38 t466 (ji19)).f4)) := hcc22 4 _ rfl
                have hx22_5 : w10.cell? ⟨go22, ((ji19) : Int).toNat * 8 + 5, none⟩ = some (.bool ((rd_T38 t466 (ji19)).f5)) := hcc22 5 _ rfl
                have hx22_6 : w10.cell? ⟨go22, ((ji19) : Int).toNat * 8 + 6, none⟩ = some (.bool ((rd_T38 t466 (ji19)).f6)) := hcc22 6 _ rfl
                have hx22_7 : w10.cell? ⟨go22, ((ji19) : Int).toNat * 8 + 7, none⟩ = some (.int .i64 ((rd_T38 t466 (ji19)).f7)) := hcc22 7 _ rfl
                have hf22_0 : w10.frozen? ⟨go22, ((ji19) : Int).toNat * 8, none⟩ = false := hfr22 0
                have hf22_1 : w10.frozen? ⟨go22, ((ji19) : Int).toNat * 8 + 1, none⟩ = false := hfr22 1
                have hf22_2 : w10.frozen? ⟨go22, ((ji19) : Int).toNat * 8 + 2, none⟩ = false := hfr22 2
                have hf22_3 : w10.frozen? ⟨go22, ((ji19) : Int).toNat * 8 + 3, none⟩ = false := hfr22 3
                have hf22_4 : w10.frozen? ⟨go22, ((ji19) : Int).toNat * 8 + 4, none⟩ = false := hfr22 4
                have hf22_5 : w10.frozen? ⟨go22, ((ji19) : Int).toNat * 8 + 5, none⟩ = false := hfr22 5
                have hf22_6 : w10.frozen? ⟨go22, ((ji19) : Int).toNat * 8 + 6, none⟩ = false := hfr22 6
                have hf22_7 : w10.frozen? ⟨go22, ((ji19) : Int).toNat * 8 + 7, none⟩ = false := hfr22 7
                clear hcl22 hcc22 hfr22 hM22
                replace p22 := eq_true p22
                replace q22 := eq_true q22
                have HX23 := Aside0.mk (show Kd.S k38 38 w10 w.heap.size (fun k_ => ((fun _ => True)) k_ ∧ ¬ ((fun _ => False)) k_) (.slice (some ⟨go22, 0, none⟩) t466.length co22) t466 from (by (with_reducible repeat (first | apply Kd.S_alloc | apply Kd.S_drewN | apply Kd.S_drew)); exact Kd.S_mono HO468.out (fun k_ hk => ⟨trivial, fun e_ => e_⟩)))
                obtain ⟨oki23, ce23, hcl23, hM23, hcc23, hfr23, hoki23, hH23⟩ := Kd.S_elem HX23.out z38 ((ji19) : Int) (of_decide_eq_true (by first | (with_reducible assumption) | assumption)) (by have h_ : ((ji19) : Int) < ((t466.length : Int) : Int) := of_decide_eq_true (by first | (with_reducible assumption) | assumption); first | exact h_ | (have e_ := (Kd.S_reads' HO468.out).1; omega) | simpa using h_)
                obtain ⟨ve23_2, rfl, ge23_2⟩ := k38_openM hM23
                have HP23 := Kd.S_seg hH23 (of_decide_eq_true (by first | (with_reducible assumption) | assumption)) (by have h_ : ((ji19) : Int) < ((t466.length : Int) : Int) := of_decide_eq_true (by first | (with_reducible assumption) | assumption); first | exact h_ | (have e_ := (Kd.S_reads' HO468.out).1; omega) | simpa using h_) (seg := [.int .i64 10]) (j := 1) (show 2 ≤ 8 from by decide) (x' := (⟨(rd_T38 t466 (ji19)).f0, 10, (rd_T38 t466 (ji19)).f2, (rd_T38 t466 (ji19)).f3, (rd_T38 t466 (ji19)).f4, (rd_T38 t466 (ji19)).f5, (rd_T38 t466 (ji19)).f6, (rd_T38 t466 (ji19)).f7⟩ : S38)) (k38_mkM _ _ _ (⟨(rd_T38 t466 (ji19)).f0, 10, (rd_T38 t466 (ji19)).f2, (rd_T38 t466 (ji19)).f3, (rd_T38 t466 (ji19)).f4, (rd_T38 t466 (ji19)).f5, (rd_T38 t466 (ji19)).f6, (rd_T38 t466 (ji19)).f7⟩ : S38) (Kd.R_mono ge23_2 (fun _ h_ => Or.inl h_))) (fun _ hk => hk) (fun k_ hk_ => hk_.elim)
                have hx23_1 := hcc23 1 _ rfl
                (try simp only [show (k38).sz = 8 from rfl, Nat.mul_one, Nat.add_zero] at hx23_1)
                have hf23_1 := hfr23 1
                (try simp only [show (k38).sz = 8 from rfl, Nat.mul_one, Nat.add_zero] at hf23_1)
                clear hcl23 hcc23 hfr23 hM23 hoki23 hH23
                go_wp2_with (first | ((with_reducible refine gate_store (t := 3) (p := 45) rfl ?_); refine store_event (t := 3) (p := 45) (v := ?vo_w24) (w1 := (w10.setCell ⟨go22, ((ji19) : Int).toNat * 8 + 1, none⟩ (.int .i64 10))) ?hg ?ho ?hn ?hr ?_; (case ho => rfl); (case hg => rfl); (case hn => rfl); (case hr => first | (go_simp; done) | (go_simp; rfl)); intro w24 hw; have hg : w10.grownBy w24 (some go22) := (by rw [hw]; exact HP23.2); have hp_ : Kd.S k38 38 w24 w.heap.size (fun _ => True) (.slice (some ⟨go22, 0, none⟩) t466.length co22) y470 := (by rw [hw, Ny470.out]; exact HP23.1); clear HP23; have n0_ := Aside0.mk (hp_); have n1_ := Aside0.mk ((by rw [hw]; exact below_set (HB.out) GB22.out : Below w.heap.size w w24)); clear HO468; clear HB; have HO468 := n0_; have HB := n1_; clear n0_ n1_; clear hg hw hp_))
                subst hji19
                go_meet
                case rel => exact ⟨_, (y470), H', ⟨by first | omega | exact Nat.le_refl _⟩, ⟨by (with_reducible repeat (first | apply Kd.S_alloc | apply Kd.S_drewN | apply Kd.S_drew)); exact HO468.out⟩, ⟨by repeat (first | (with_reducible first | exact HB.out | apply below_alloc | apply pw_below_drewN | apply below_drew1) | exact HB.out)⟩⟩
              · rw [if_neg c21] at H
                exact absurd H (by simp)
            · rw [if_neg c20] at H
              exact absurd H (by simp)
          · rw [if_neg c18] at H
            have c18b0 : ((Int.tmod a2 14) == 1) = false := beq_eq_false_iff_ne.mpr c18
            have c18b1 : ((Int.tmod a2 14) != 1) = true := bne_iff_ne.mpr c18
            by_cases c25 : (Int.tmod a2 14) = 2
            · rw [if_pos c25] at H
              have c25b0 : ((Int.tmod a2 14) == 2) = true := beq_iff_eq.mpr c25
              have c25b1 : ((Int.tmod a2 14) != 2) = false := bne_eq_false_iff_eq.mpr c25
              clear c25
              obtain ⟨ji26, hji26⟩ : ∃ j_ : Int, (wrap64 (1 + (Int.tmod (wrap64 (a1)) (wrap64 ((wrap64 (2 + (wrap64 (Int.tmod a0 40)))) - 1))))) = j_ := ⟨_, rfl⟩
              replace H : (if 0 ≤ (ji26) then (if (ji26) < (t466.length : Int) then (partitalaw10_TurnsErrors.j0 k true (t466.set ((ji26) : Int).toNat (⟨(rd_T38 t466 (ji26)).f0, (-1), (rd_T38 t466 (ji26)).f2, (rd_T38 t466 (ji26)).f3, (rd_T38 t466 (ji26)).f4, (rd_T38 t466 (ji26)).f5, (rd_T38 t466 (ji26)).f6, (rd_T38 t466 (ji26)).f7⟩ : S38)) ji26) else (none)) else (none)) = some r := by first | (rw [hji26] at H; exact H) | (simp only [hji26] at H ⊢; exact H)
              have hji26w : (IntKind.i64.wrap (1 + (Int.tmod (wrap64 (a1)) (wrap64 ((wrap64 (2 + (wrap64 (Int.tmod a0 40)))) - 1))))) = ji26 := (i64_w _).trans hji26
              by_cases c27 : 0 ≤ (ji26)
              · rw [if_pos c27] at H
                have c27b0 : decide (0 ≤ (ji26)) = true := decide_eq_true c27
                clear c27
                by_cases c28 : (ji26) < (t466.length : Int)
                · rw [if_pos c28] at H
                  have c28b0 : decide ((ji26) < (t466.length : Int)) = true := decide_eq_true c28
                  clear c28
                  obtain ⟨y471, hy471⟩ : ∃ y_ : List (S38), y_ = (t466.set ((ji26) : Int).toNat (⟨(rd_T38 t466 (ji26)).f0, (-1), (rd_T38 t466 (ji26)).f2, (rd_T38 t466 (ji26)).f3, (rd_T38 t466 (ji26)).f4, (rd_T38 t466 (ji26)).f5, (rd_T38 t466 (ji26)).f6, (rd_T38 t466 (ji26)).f7⟩ : S38)) := ⟨_, rfl⟩
                  replace H : (partitalaw10_TurnsErrors.j0 k true y471 ji26) = some r := by first | (rw [hy471]; with_reducible exact H) | (have H2_ := (Option.bind_some _ _).symm.trans H; rw [hy471]; with_reducible exact H2_) | (have H2_ := (Option.bind_some _ _).symm.trans H; with_reducible exact H2_) | with_reducible exact H | (rw [hy471]; exact H) | exact H
                  have Ny471 := Aside0.mk hy471
                  clear hy471
                  have H' := Aside0.mk H
                  clear H
                  have p29 : 0 ≤ ((ji26) : Int) := of_decide_eq_true (by first | (with_reducible assumption) | assumption)
                  have q29 : ((ji26) : Int) < ((t466.length : Int) : Int) := of_decide_eq_true (by first | (with_reducible assumption) | assumption)
                  obtain ⟨go29, co29, eo29, gb29, gl29, cl29, HG29⟩ := Kd.S_form HO468.out (by omega)
                  (first | cases eo29 | (injection eo29 with ea_ en_ ec_; (first | subst ea_ | (injection ea_ with ea_; subst ea_)); subst ec_; clear en_))
                  have GB29 := Aside0.mk gb29
                  have GG29 := Aside0.mk HG29
                  clear gb29 gl29 HG29
                  obtain ⟨_, ce29, hcl29, hM29, hcc29, hfr29, _, _⟩ := Kd.S_elem HO468.out z38 ((ji26) : Int) p29 q29
                  obtain ⟨ve29_2, rfl, ge29_2⟩ := k38_openM hM29
                  have hx29_0 : w10.cell? ⟨go29, ((ji26) : Int).toNat * 8, none⟩ = some (.bool ((rd_T38 t466 (ji26)).f0)) := hcc29 0 _ rfl
                  have hx29_1 : w10.cell? ⟨go29, ((ji26) : Int).toNat * 8 + 1, none⟩ = some (.int .i64 ((rd_T38 t466 (ji26)).f1)) := hcc29 1 _ rfl
                  have hx29_2 : w10.cell? ⟨go29, ((ji26) : Int).toNat * 8 + 2, none⟩ = some (ve29_2) := hcc29 2 _ rfl
                  have hx29_3 : w10.cell? ⟨go29, ((ji26) : Int).toNat * 8 + 3, none⟩ = some (.bool ((rd_T38 t466 (ji26)).f3)) := hcc29 3 _ rfl
                  have hx29_4 : w10.cell? ⟨go29, ((ji26) : Int).toNat * 8 + 4, none⟩ = some (.bool ((rd_T38 t466 (ji26)).f4)) := hcc29 4 _ rfl
                  have hx29_5 : w10.cell? ⟨go29, ((ji26) : Int).toNat * 8 + 5, none⟩ = some (.bool ((rd_T38 t466 (ji26)).f5)) := hcc29 5 _ rfl
                  have hx29_6 : w10.cell? ⟨go29, ((ji26) : Int).toNat * 8 + 6, none⟩ = some (.bool ((rd_T38 t466 (ji26)).f6)) := hcc29 6 _ rfl
                  have hx29_7 : w10.cell? ⟨go29, ((ji26) : Int).toNat * 8 + 7, none⟩ = some (.int .i64 ((rd_T38 t466 (ji26)).f7)) := hcc29 7 _ rfl
                  have hf29_0 : w10.frozen? ⟨go29, ((ji26) : Int).toNat * 8, none⟩ = false := hfr29 0
                  have hf29_1 : w10.frozen? ⟨go29, ((ji26) : Int).toNat * 8 + 1, none⟩ = false := hfr29 1
                  have hf29_2 : w10.frozen? ⟨go29, ((ji26) : Int).toNat * 8 + 2, none⟩ = false := hfr29 2
                  have hf29_3 : w10.frozen? ⟨go29, ((ji26) : Int).toNat * 8 + 3, none⟩ = false := hfr29 3
                  have hf29_4 : w10.frozen? ⟨go29, ((ji26) : Int).toNat * 8 + 4, none⟩ = false := hfr29 4
                  have hf29_5 : w10.frozen? ⟨go29, ((ji26) : Int).toNat * 8 + 5, none⟩ = false := hfr29 5
                  have hf29_6 : w10.frozen? ⟨go29, ((ji26) : Int).toNat * 8 + 6, none⟩ = false := hfr29 6
                  have hf29_7 : w10.frozen? ⟨go29, ((ji26) : Int).toNat * 8 + 7, none⟩ = false := hfr29 7
                  clear hcl29 hcc29 hfr29 hM29
                  replace p29 := eq_true p29
                  replace q29 := eq_true q29
                  have HX30 := Aside0.mk (show Kd.S k38 38 w10 w.heap.size (fun k_ => ((fun _ => True)) k_ ∧ ¬ ((fun _ => False)) k_) (.slice (some ⟨go29, 0, none⟩) t466.length co29) t466 from (by (with_reducible repeat (first | apply Kd.S_alloc | apply Kd.S_drewN | apply Kd.S_drew)); exact Kd.S_mono HO468.out (fun k_ hk => ⟨trivial, fun e_ => e_⟩)))
                  obtain ⟨oki30, ce30, hcl30, hM30, hcc30, hfr30, hoki30, hH30⟩ := Kd.S_elem HX30.out z38 ((ji26) : Int) (of_decide_eq_true (by first | (with_reducible assumption) | assumption)) (by have h_ : ((ji26) : Int) < ((t466.length : Int) : Int) := of_decide_eq_true (by first | (with_reducible assumption) | assumption); first | exact h_ | (have e_ := (Kd.S_reads' HO468.out).1; omega) | simpa using h_)
                  obtain ⟨ve30_2, rfl, ge30_2⟩ := k38_openM hM30
                  have HP30 := Kd.S_seg hH30 (of_decide_eq_true (by first | (with_reducible assumption) | assumption)) (by have h_ : ((ji26) : Int) < ((t466.length : Int) : Int) := of_decide_eq_true (by first | (with_reducible assumption) | assumption); first | exact h_ | (have e_ := (Kd.S_reads' HO468.out).1; omega) | simpa using h_) (seg := [.int .i64 (-1)]) (j := 1) (show 2 ≤ 8 from by decide) (x' := (⟨(rd_T38 t466 (ji26)).f0, (-1), (rd_T38 t466 (ji26)).f2, (rd_T38 t466 (ji26)).f3, (rd_T38 t466 (ji26)).f4, (rd_T38 t466 (ji26)).f5, (rd_T38 t466 (ji26)).f6, (rd_T38 t466 (ji26)).f7⟩ : S38)) (k38_mkM _ _ _ (⟨(rd_T38 t466 (ji26)).f0, (-1), (rd_T38 t466 (ji26)).f2, (rd_T38 t466 (ji26)).f3, (rd_T38 t466 (ji26)).f4, (rd_T38 t466 (ji26)).f5, (rd_T38 t466 (ji26)).f6, (rd_T38 t466 (ji26)).f7⟩ : S38) (Kd.R_mono ge30_2 (fun _ h_ => Or.inl h_))) (fun _ hk => hk) (fun k_ hk_ => hk_.elim)
                  have hx30_1 := hcc30 1 _ rfl
                  (try simp only [show (k38).sz = 8 from rfl, Nat.mul_one, Nat.add_zero] at hx30_1)
                  have hf30_1 := hfr30 1
                  (try simp only [show (k38).sz = 8 from rfl, Nat.mul_one, Nat.add_zero] at hf30_1)
                  clear hcl30 hcc30 hfr30 hM30 hoki30 hH30
                  go_wp2_with (first | ((with_reducible refine gate_store (t := 3) (p := 51) rfl ?_); refine store_event (t := 3) (p := 51) (v := ?vo_w31) (w1 := (w10.setCell ⟨go29, ((ji26) : Int).toNat * 8 + 1, none⟩ (.int .i64 (-1)))) ?hg ?ho ?hn ?hr ?_; (case ho => rfl); (case hg => rfl); (case hn => rfl); (case hr => first | (go_simp; done) | (go_simp; rfl)); intro w31 hw; have hg : w10.grownBy w31 (some go29) := (by rw [hw]; exact HP30.2); have hp_ : Kd.S k38 38 w31 w.heap.size (fun _ => True) (.slice (some ⟨go29, 0, none⟩) t466.length co29) y471 := (by rw [hw, Ny471.out]; exact HP30.1); clear HP30; have n0_ := Aside0.mk (hp_); have n1_ := Aside0.mk ((by rw [hw]; exact below_set (HB.out) GB29.out : Below w.heap.size w w31)); clear HO468; clear HB; have HO468 := n0_; have HB := n1_; clear n0_ n1_; clear hg hw hp_))
                  subst hji26
                  go_meet
                  case rel => exact ⟨_, (y471), H', ⟨by first | omega | exact Nat.le_refl _⟩, ⟨by (with_reducible repeat (first | apply Kd.S_alloc | apply Kd.S_drewN | apply Kd.S_drew)); exact HO468.out⟩, ⟨by repeat (first | (with_reducible first | exact HB.out | apply below_alloc | apply pw_below_drewN | apply below_drew1) | exact HB.out)⟩⟩
                · rw [if_neg c28] at H
                  exact absurd H (by simp)
              · rw [if_neg c27] at H
                exact absurd H (by simp)
            · rw [if_neg c25] at H
              have c25b0 : ((Int.tmod a2 14) == 2) = false := beq_eq_false_iff_ne.mpr c25
              have c25b1 : ((Int.tmod a2 14) != 2) = true := bne_iff_ne.mpr c25
              by_cases c32 : (Int.tmod a2 14) = 3
              · rw [if_pos c32] at H
                have c32b0 : ((Int.tmod a2 14) == 3) = true := beq_iff_eq.mpr c32
                have c32b1 : ((Int.tmod a2 14) != 3) = false := bne_eq_false_iff_eq.mpr c32
                clear c32
                obtain ⟨y472, hy472⟩ : ∃ y_ : List Int, y_ = (([0] : List Int)) := ⟨_, rfl⟩
                replace H : (if 0 ≤ (wrap64 (1 + (Int.tmod (wrap64 (a1)) (wrap64 ((wrap64 (2 + (wrap64 (Int.tmod a0 40)))) - 1))))) then (if (wrap64 (1 + (Int.tmod (wrap64 (a1)) (wrap64 ((wrap64 (2 + (wrap64 (Int.tmod a0 40)))) - 1))))) < (t466.length : Int) then (partitalaw10_TurnsErrors.j0 k true (t466.set ((wrap64 (1 + (Int.tmod (wrap64 (a1)) (wrap64 ((wrap64 (2 + (wrap64 (Int.tmod a0 40)))) - 1))))) : Int).toNat (⟨(rd_T38 t466 (wrap64 (1 + (Int.tmod (wrap64 (a1)) (wrap64 ((wrap64 (2 + (wrap64 (Int.tmod a0 40)))) - 1)))))).f0, (rd_T38 t466 (wrap64 (1 + (Int.tmod (wrap64 (a1)) (wrap64 ((wrap64 (2 + (wrap64 (Int.tmod a0 40)))) - 1)))))).f1, y472, (rd_T38 t466 (wrap64 (1 + (Int.tmod (wrap64 (a1)) (wrap64 ((wrap64 (2 + (wrap64 (Int.tmod a0 40)))) - 1)))))).f3, (rd_T38 t466 (wrap64 (1 + (Int.tmod (wrap64 (a1)) (wrap64 ((wrap64 (2 + (wrap64 (Int.tmod a0 40)))) - 1)))))).f4, (rd_T38 t466 (wrap64 (1 + (Int.tmod (wrap64 (a1)) (wrap64 ((wrap64 (2 + (wrap64 (Int.tmod a0 40)))) - 1)))))).f5, (rd_T38 t466 (wrap64 (1 + (Int.tmod (wrap64 (a1)) (wrap64 ((wrap64 (2 + (wrap64 (Int.tmod a0 40)))) - 1)))))).f6, (rd_T38 t466 (wrap64 (1 + (Int.tmod (wrap64 (a1)) (wrap64 ((wrap64 (2 + (wrap64 (Int.tmod a0 40)))) - 1)))))).f7⟩ : S38)) (wrap64 (1 + (Int.tmod (wrap64 (a1)) (wrap64 ((wrap64 (2 + (wrap64 (Int.tmod a0 40)))) - 1)))))) else (none)) else (none)) = some r := by first | (rw [hy472]; with_reducible exact H) | (have H2_ := (Option.bind_some _ _).symm.trans H; rw [hy472]; with_reducible exact H2_) | (have H2_ := (Option.bind_some _ _).symm.trans H; with_reducible exact H2_) | with_reducible exact H | (rw [hy472]; exact H) | exact H
                have Ny472 := Aside0.mk hy472
                clear hy472
                obtain ⟨ji33, hji33⟩ : ∃ j_ : Int, (wrap64 (1 + (Int.tmod (wrap64 (a1)) (wrap64 ((wrap64 (2 + (wrap64 (Int.tmod a0 40)))) - 1))))) = j_ := ⟨_, rfl⟩
                replace H : (if 0 ≤ (ji33) then (if (ji33) < (t466.length : Int) then (partitalaw10_TurnsErrors.j0 k true (t466.set ((ji33) : Int).toNat (⟨(rd_T38 t466 (ji33)).f0, (rd_T38 t466 (ji33)).f1, y472, (rd_T38 t466 (ji33)).f3, (rd_T38 t466 (ji33)).f4, (rd_T38 t466 (ji33)).f5, (rd_T38 t466 (ji33)).f6, (rd_T38 t466 (ji33)).f7⟩ : S38)) ji33) else (none)) else (none)) = some r := by first | (rw [hji33] at H; exact H) | (simp only [hji33] at H ⊢; exact H)
                have hji33w : (IntKind.i64.wrap (1 + (Int.tmod (wrap64 (a1)) (wrap64 ((wrap64 (2 + (wrap64 (Int.tmod a0 40)))) - 1))))) = ji33 := (i64_w _).trans hji33
                by_cases c34 : 0 ≤ (ji33)
                · rw [if_pos c34] at H
                  have c34b0 : decide (0 ≤ (ji33)) = true := decide_eq_true c34
                  clear c34
                  by_cases c35 : (ji33) < (t466.length : Int)
                  · rw [if_pos c35] at H
                    have c35b0 : decide ((ji33) < (t466.length : Int)) = true := decide_eq_true c35
                    clear c35
                    obtain ⟨y475, hy475⟩ : ∃ y_ : List (S38), y_ = (t466.set ((ji33) : Int).toNat (⟨(rd_T38 t466 (ji33)).f0, (rd_T38 t466 (ji33)).f1, y472, (rd_T38 t466 (ji33)).f3, (rd_T38 t466 (ji33)).f4, (rd_T38 t466 (ji33)).f5, (rd_T38 t466 (ji33)).f6, (rd_T38 t466 (ji33)).f7⟩ : S38)) := ⟨_, rfl⟩
                    replace H : (partitalaw10_TurnsErrors.j0 k true y475 ji33) = some r := by first | (rw [hy475]; with_reducible exact H) | (have H2_ := (Option.bind_some _ _).symm.trans H; rw [hy475]; with_reducible exact H2_) | (have H2_ := (Option.bind_some _ _).symm.trans H; with_reducible exact H2_) | with_reducible exact H | (rw [hy475]; exact H) | exact H
                    have Ny475 := Aside0.mk hy475
                    clear hy475
                    have H' := Aside0.mk H
                    clear H
                    go_wp2_with (first | ((with_reducible refine gate_dst (N := 56) rfl ?_); (try (refine gate_guard (by rfl) ?_; dsimp only)); refine Kd.R_lit (Kd.int .i64) _ 3 ?hg (N := 56) ?hd (xs := ([0] : List Int)) (inner := [.int .i64 0]) (ok := fun _ => True) (okp := fun _ => True) ?hr ?hp (fun _ hk => hk) trivial (Below.refl _ _) (Nat.le_refl _) (by simp) ?_; (case hd => rfl); (case hg => rfl); (case hr => first | (go_simp; done) | (go_simp; rfl)); (case hp => exact (Reps.one (show Kd.M (Kd.int .i64) _ _ _ 0 [.int .i64 0] from rfl) (Reps.none _ _))); intro v473 w37 ho38 hb hg_ hnew_; clear hg_ hnew_; (first | rw [← Ny472.out] at ho38 | (simp only [Int.reduceToNat] at ho38; rw [← Ny472.out] at ho38)); have n0_ := Aside0.mk (Kd.S_elder' (by (with_reducible repeat (first | apply Kd.S_alloc | apply Kd.S_drewN | apply Kd.S_drew)); exact HO468.out) (Kd.R_base ho38) hb); have n1_ := Aside0.mk (Kd.R_lower ho38 (below_size (by repeat (first | (with_reducible first | exact HB.out | apply below_alloc | apply pw_below_drewN | apply below_drew1) | exact HB.out)))); have n2_ := Aside0.mk (below_step (by repeat (first | (with_reducible first | exact HB.out | apply below_alloc | apply pw_below_drewN | apply below_drew1) | exact HB.out)) hb); clear HO468; clear HB; have HO468 := n0_; have HO474 := n1_; have HB := n2_; clear n0_ n1_ n2_; clear hb ho38; have p36 : 0 ≤ ((ji33) : Int) := of_decide_eq_true (by first | (with_reducible assumption) | assumption); have q36 : ((ji33) : Int) < ((t466.length : Int) : Int) := of_decide_eq_true (by first | (with_reducible assumption) | assumption); obtain ⟨go36, co36, eo36, gb36, gl36, cl36, HG36⟩ := Kd.S_form HO468.out (by omega); (first | cases eo36 | (injection eo36 with ea_ en_ ec_; (first | subst ea_ | (injection ea_ with ea_; subst ea_)); subst ec_; clear en_)); have GB36 := Aside0.mk gb36; have GG36 := Aside0.mk HG36; clear gb36 gl36 HG36; obtain ⟨_, ce36, hcl36, hM36, hcc36, hfr36, _, _⟩ := Kd.S_elem HO468.out z38 ((ji33) : Int) p36 q36; obtain ⟨ve36_2, rfl, ge36_2⟩ := k38_openM hM36; have hx36_0 : w37.cell? ⟨go36, ((ji33) : Int).toNat * 8, none⟩ = some (.bool ((rd_T38 t466 (ji33)).f0)) := hcc36 0 _ rfl; have hx36_1 : w37.cell? ⟨go36, ((ji33) : Int).toNat * 8 + 1, none⟩ = some (.int .i64 ((rd_T38 t466 (ji33)).f1)) := hcc36 1 _ rfl; have hx36_2 : w37.cell? ⟨go36, ((ji33) : Int).toNat * 8 + 2, none⟩ = some (ve36_2) := hcc36 2 _ rfl; have hx36_3 : w37.cell? ⟨go36, ((ji33) : Int).toNat * 8 + 3, none⟩ = some (.bool ((rd_T38 t466 (ji33)).f3)) := hcc36 3 _ rfl; have hx36_4 : w37.cell? ⟨go36, ((ji33) : Int).toNat * 8 + 4, none⟩ = some (.bool ((rd_T38 t466 (ji33)).f4)) := hcc36 4 _ rfl; have hx36_5 : w37.cell? ⟨go36, ((ji33) : Int).toNat * 8 + 5, none⟩ = some (.bool ((rd_T38 t466 (ji33)).f5)) := hcc36 5 _ rfl; have hx36_6 : w37.cell? ⟨go36, ((ji33) : Int).toNat * 8 + 6, none⟩ = some (.bool ((rd_T38 t466 (ji33)).f6)) := hcc36 6 _ rfl; have hx36_7 : w37.cell? ⟨go36, ((ji33) : Int).toNat * 8 + 7, none⟩ = some (.int .i64 ((rd_T38 t466 (ji33)).f7)) := hcc36 7 _ rfl; have hf36_0 : w37.frozen? ⟨go36, ((ji33) : Int).toNat * 8, none⟩ = false := hfr36 0; have hf36_1 : w37.frozen? ⟨go36, ((ji33) : Int).toNat * 8 + 1, none⟩ = false := hfr36 1; have hf36_2 : w37.frozen? ⟨go36, ((ji33) : Int).toNat * 8 + 2, none⟩ = false := hfr36 2; have hf36_3 : w37.frozen? ⟨go36, ((ji33) : Int).toNat * 8 + 3, none⟩ = false := hfr36 3; have hf36_4 : w37.frozen? ⟨go36, ((ji33) : Int).toNat * 8 + 4, none⟩ = false := hfr36 4; have hf36_5 : w37.frozen? ⟨go36, ((ji33) : Int).toNat * 8 + 5, none⟩ = false := hfr36 5; have hf36_6 : w37.frozen? ⟨go36, ((ji33) : Int).toNat * 8 + 6, none⟩ = false := hfr36 6; have hf36_7 : w37.frozen? ⟨go36, ((ji33) : Int).toNat * 8 + 7, none⟩ = false := hfr36 7; clear hcl36 hcc36 hfr36 hM36; replace p36 := eq_true p36; replace q36 := eq_true q36; have n_ := Aside0.mk (Kd.S_mono (ok' := (fun k_ => some k_ ≠ (v473 : Value).ownBlock)) HO468.out (fun k_ hk => hk.2)); clear HO468; have HO468 := n_; clear n_; have HX39 := Aside0.mk (show Kd.S k38 38 w37 w.heap.size (fun k_ => ((fun _ => True)) k_ ∧ ¬ ((fun k_ => some k_ = (v473 : Value).ownBlock)) k_) (.slice (some ⟨go36, 0, none⟩) t466.length co36) t466 from (by (with_reducible repeat (first | apply Kd.S_alloc | apply Kd.S_drewN | apply Kd.S_drew)); exact Kd.S_mono HO468.out (fun k_ hk => ⟨trivial, fun e_ => hk e_⟩))); obtain ⟨oki39, ce39, hcl39, hM39, hcc39, hfr39, hoki39, hH39⟩ := Kd.S_elem HX39.out z38 ((ji33) : Int) (of_decide_eq_true (by first | (with_reducible assumption) | assumption)) (by have h_ : ((ji33) : Int) < ((t466.length : Int) : Int) := of_decide_eq_true (by first | (with_reducible assumption) | assumption); first | exact h_ | (have e_ := (Kd.S_reads' HO468.out).1; omega) | simpa using h_); obtain ⟨ve39_2, rfl, ge39_2⟩ := k38_openM hM39; have HP39 := Kd.S_seg hH39 (of_decide_eq_true (by first | (with_reducible assumption) | assumption)) (by have h_ : ((ji33) : Int) < ((t466.length : Int) : Int) := of_decide_eq_true (by first | (with_reducible assumption) | assumption); first | exact h_ | (have e_ := (Kd.S_reads' HO468.out).1; omega) | simpa using h_) (seg := [v473]) (j := 2) (show 3 ≤ 8 from by decide) (x' := (⟨(rd_T38 t466 (ji33)).f0, (rd_T38 t466 (ji33)).f1, y472, (rd_T38 t466 (ji33)).f3, (rd_T38 t466 (ji33)).f4, (rd_T38 t466 (ji33)).f5, (rd_T38 t466 (ji33)).f6, (rd_T38 t466 (ji33)).f7⟩ : S38)) (k38_mkM _ _ _ (⟨(rd_T38 t466 (ji33)).f0, (rd_T38 t466 (ji33)).f1, y472, (rd_T38 t466 (ji33)).f3, (rd_T38 t466 (ji33)).f4, (rd_T38 t466 (ji33)).f5, (rd_T38 t466 (ji33)).f6, (rd_T38 t466 (ji33)).f7⟩ : S38) (Kd.R_mono (Kd.R_tight rfl (Kd.R_mono (ok' := fun k_ => ((fun _ => True)) k_ ∧ k_ ≠ go36) (Kd.R_apart' (HO474.out) (Kd.S_typed HO468.out) (by decide)) (fun k_ hk => ⟨trivial, fun e_ => (hk.2) (by rw [e_]; rfl)⟩))) (fun _ h_ => Or.inr (h_)))) (fun _ hk => hk) (fun k_ hk_ => ((Kd.R_mono (ok' := fun k_ => ((fun _ => True)) k_ ∧ k_ ≠ go36) (Kd.R_apart' (HO474.out) (Kd.S_typed HO468.out) (by decide)) (fun k_ hk => ⟨trivial, fun e_ => (hk.2) (by rw [e_]; rfl)⟩))).1 k_ hk_.symm); have hx39_2 := hcc39 2 _ rfl; (try simp only [show (k38).sz = 8 from rfl, Nat.mul_one, Nat.add_zero] at hx39_2); have hf39_2 := hfr39 2; (try simp only [show (k38).sz = 8 from rfl, Nat.mul_one, Nat.add_zero] at hf39_2); clear hcl39 hcc39 hfr39 hM39 hoki39 hH39) | ((with_reducible refine gate_store (t := 31) (p := 58) rfl ?_); refine store_event (t := 31) (p := 58) (v := ?vo_w40) (w1 := (w37.setCell ⟨go36, ((ji33) : Int).toNat * 8 + 2, none⟩ (v473))) ?hg ?ho ?hn ?hr ?_; (case ho => rfl); (case hg => rfl); (case hn => rfl); (case hr => obtain ⟨Ao_, co_, eo_⟩ := Kd.R_slice HO474.out; subst eo_; first | (go_simp; done) | (go_simp; rfl)); intro w40 hw; have hg : w37.grownBy w40 (some go36) := (by rw [hw]; exact HP39.2); have hp_ : Kd.S k38 38 w40 w.heap.size (fun _ => True) (.slice (some ⟨go36, 0, none⟩) t466.length co36) y475 := (by rw [hw, Ny475.out]; exact HP39.1); clear HP39; have n0_ := Aside0.mk (hp_); have n1_ := Aside0.mk ((by rw [hw]; exact below_set (HB.out) GB36.out : Below w.heap.size w w40)); clear HO468; clear HB; clear HO474; have HO468 := n0_; have HB := n1_; clear n0_ n1_; clear hg hw hp_))
                    subst hji33
                    go_meet
                    case rel => exact ⟨_, (y475), H', ⟨by first | omega | exact Nat.le_refl _⟩, ⟨by (with_reducible repeat (first | apply Kd.S_alloc | apply Kd.S_drewN | apply Kd.S_drew)); exact HO468.out⟩, ⟨by repeat (first | (with_reducible first | exact HB.out | apply below_alloc | apply pw_below_drewN | apply below_drew1) | exact HB.out)⟩⟩
                  · rw [if_neg c35] at H
                    exact absurd H (by simp)
                · rw [if_neg c34] at H
                  exact absurd H (by simp)
              · rw [if_neg c32] at H
                have c32b0 : ((Int.tmod a2 14) == 3) = false := beq_eq_false_iff_ne.mpr c32
                have c32b1 : ((Int.tmod a2 14) != 3) = true := bne_iff_ne.mpr c32
                by_cases c41 : (Int.tmod a2 14) = 4
                · rw [if_pos c41] at H
                  have c41b0 : ((Int.tmod a2 14) == 4) = true := beq_iff_eq.mpr c41
                  have c41b1 : ((Int.tmod a2 14) != 4) = false := bne_eq_false_iff_eq.mpr c41
                  clear c41
                  obtain ⟨y476, hy476⟩ : ∃ y_ : List Int, y_ = (([10] : List Int)) := ⟨_, rfl⟩
                  replace H : (if 0 ≤ (wrap64 (1 + (Int.tmod (wrap64 (a1)) (wrap64 ((wrap64 (2 + (wrap64 (Int.tmod a0 40)))) - 1))))) then (if (wrap64 (1 + (Int.tmod (wrap64 (a1)) (wrap64 ((wrap64 (2 + (wrap64 (Int.tmod a0 40)))) - 1))))) < (t466.length : Int) then (partitalaw10_TurnsErrors.j0 k true (t466.set ((wrap64 (1 + (Int.tmod (wrap64 (a1)) (wrap64 ((wrap64 (2 + (wrap64 (Int.tmod a0 40)))) - 1))))) : Int).toNat (⟨(rd_T38 t466 (wrap64 (1 + (Int.tmod (wrap64 (a1)) (wrap64 ((wrap64 (2 + (wrap64 (Int.tmod a0 40)))) - 1)))))).f0, (rd_T38 t466 (wrap64 (1 + (Int.tmod (wrap64 (a1)) (wrap64 ((wrap64 (2 + (wrap64 (Int.tmod a0 40)))) - 1)))))).f1, y476, (rd_T38 t466 (wrap64 (1 + (Int.tmod (wrap64 (a1)) (wrap64 ((wrap64 (2 + (wrap64 (Int.tmod a0 40)))) - 1)))))).f3, (rd_T38 t466 (wrap64 (1 + (Int.tmod (wrap64 (a1)) (wrap64 ((wrap64 (2 + (wrap64 (Int.tmod a0 40)))) - 1)))))).f4, (rd_T38 t466 (wrap64 (1 + (Int.tmod (wrap64 (a1)) (wrap64 ((wrap64 (2 + (wrap64 (Int.tmod a0 40)))) - 1)))))).f5, (rd_T38 t466 (wrap64 (1 + (Int.tmod (wrap64 (a1)) (wrap64 ((wrap64 (2 + (wrap64 (Int.tmod a0 40)))) - 1)))))).f6, (rd_T38 t466 (wrap64 (1 + (Int.tmod (wrap64 (a1)) (wrap64 ((wrap64 (2 + (wrap64 (Int.tmod a0 40)))) - 1)))))).f7⟩ : S38)) (wrap64 (1 + (Int.tmod (wrap64 (a1)) (wrap64 ((wrap64 (2 + (wrap64 (Int.tmod a0 40)))) - 1)))))) else (none)) else (none)) = some r := by first | (rw [hy476]; with_reducible exact H) | (have H2_ := (Option.bind_some _ _).symm.trans H; rw [hy476]; with_reducible exact H2_) | (have H2_ := (Option.bind_some _ _).symm.trans H; with_reducible exact H2_) | with_reducible exact H | (rw [hy476]; exact H) | exact H
                  have Ny476 := Aside0.mk hy476
                  clear hy476
                  obtain ⟨ji42, hji42⟩ : ∃ j_ : Int, (wrap64 (1 + (Int.tmod (wrap64 (a1)) (wrap64 ((wrap64 (2 + (wrap64 (Int.tmod a0 40)))) - 1))))) = j_ := ⟨_, rfl⟩
                  replace H : (if 0 ≤ (ji42) then (if (ji42) < (t466.length : Int) then (partitalaw10_TurnsErrors.j0 k true (t466.set ((ji42) : Int).toNat (⟨(rd_T38 t466 (ji42)).f0, (rd_T38 t466 (ji42)).f1, y476, (rd_T38 t466 (ji42)).f3, (rd_T38 t466 (ji42)).f4, (rd_T38 t466 (ji42)).f5, (rd_T38 t466 (ji42)).f6, (rd_T38 t466 (ji42)).f7⟩ : S38)) ji42) else (none)) else (none)) = some r := by first | (rw [hji42] at H; exact H) | (simp only [hji42] at H ⊢; exact H)
                  have hji42w : (IntKind.i64.wrap (1 + (Int.tmod (wrap64 (a1)) (wrap64 ((wrap64 (2 + (wrap64 (Int.tmod a0 40)))) - 1))))) = ji42 := (i64_w _).trans hji42
                  by_cases c43 : 0 ≤ (ji42)
                  · rw [if_pos c43] at H
                    have c43b0 : decide (0 ≤ (ji42)) = true := decide_eq_true c43
                    clear c43
                    by_cases c44 : (ji42) < (t466.length : Int)
                    · rw [if_pos c44] at H
                      have c44b0 : decide ((ji42) < (t466.length : Int)) = true := decide_eq_true c44
                      clear c44
                      obtain ⟨y479, hy479⟩ : ∃ y_ : List (S38), y_ = (t466.set ((ji42) : Int).toNat (⟨(rd_T38 t466 (ji42)).f0, (rd_T38 t466 (ji42)).f1, y476, (rd_T38 t466 (ji42)).f3, (rd_T38 t466 (ji42)).f4, (rd_T38 t466 (ji42)).f5, (rd_T38 t466 (ji42)).f6, (rd_T38 t466 (ji42)).f7⟩ : S38)) := ⟨_, rfl⟩
                      replace H : (partitalaw10_TurnsErrors.j0 k true y479 ji42) = some r := by first | (rw [hy479]; with_reducible exact H) | (have H2_ := (Option.bind_some _ _).symm.trans H; rw [hy479]; with_reducible exact H2_) | (have H2_ := (Option.bind_some _ _).symm.trans H; with_reducible exact H2_) | with_reducible exact H | (rw [hy479]; exact H) | exact H
                      have Ny479 := Aside0.mk hy479
                      clear hy479
                      have H' := Aside0.mk H
                      clear H
                      go_wp2_with (first | ((with_reducible refine gate_dst (N := 63) rfl ?_); (try (refine gate_guard (by rfl) ?_; dsimp only)); refine Kd.R_lit (Kd.int .i64) _ 3 ?hg (N := 63) ?hd (xs := ([10] : List Int)) (inner := [.int .i64 10]) (ok := fun _ => True) (okp := fun _ => True) ?hr ?hp (fun _ hk => hk) trivial (Below.refl _ _) (Nat.le_refl _) (by simp) ?_; (case hd => rfl); (case hg => rfl); (case hr => first | (go_simp; done) | (go_simp; rfl)); (case hp => exact (Reps.one (show Kd.M (Kd.int .i64) _ _ _ 10 [.int .i64 10] from rfl) (Reps.none _ _))); intro v477 w46 ho47 hb hg_ hnew_; clear hg_ hnew_; (first | rw [← Ny476.out] at ho47 | (simp only [Int.reduceToNat] at ho47; rw [← Ny476.out] at ho47)); have n0_ := Aside0.mk (Kd.S_elder' (by (with_reducible repeat (first | apply Kd.S_alloc | apply Kd.S_drewN | apply Kd.S_drew)); exact HO468.out) (Kd.R_base ho47) hb); have n1_ := Aside0.mk (Kd.R_lower ho47 (below_size (by repeat (first | (with_reducible first | exact HB.out | apply below_alloc | apply pw_below_drewN | apply below_drew1) | exact HB.out)))); have n2_ := Aside0.mk (below_step (by repeat (first | (with_reducible first | exact HB.out | apply below_alloc | apply pw_below_drewN | apply below_drew1) | exact HB.out)) hb); clear HO468; clear HB; have HO468 := n0_; have HO478 := n1_; have HB := n2_; clear n0_ n1_ n2_; clear hb ho47; have p45 : 0 ≤ ((ji42) : Int) := of_decide_eq_true (by first | (with_reducible assumption) | assumption); have q45 : ((ji42) : Int) < ((t466.length : Int) : Int) := of_decide_eq_true (by first | (with_reducible assumption) | assumption); obtain ⟨go45, co45, eo45, gb45, gl45, cl45, HG45⟩ := Kd.S_form HO468.out (by omega); (first | cases eo45 | (injection eo45 with ea_ en_ ec_; (first | subst ea_ | (injection ea_ with ea_; subst ea_)); subst ec_; clear en_)); have GB45 := Aside0.mk gb45; have GG45 := Aside0.mk HG45; clear gb45 gl45 HG45; obtain ⟨_, ce45, hcl45, hM45, hcc45, hfr45, _, _⟩ := Kd.S_elem HO468.out z38 ((ji42) : Int) p45 q45; obtain ⟨ve45_2, rfl, ge45_2⟩ := k38_openM hM45; have hx45_0 : w46.cell? ⟨go45, ((ji42) : Int).toNat * 8, none⟩ = some (.bool ((rd_T38 t466 (ji42)).f0)) := hcc45 0 _ rfl; have hx45_1 : w46.cell? ⟨go45, ((ji42) : Int).toNat * 8 + 1, none⟩ = some (.int .i64 ((rd_T38 t466 (ji42)).f1)) := hcc45 1 _ rfl; have hx45_2 : w46.cell? ⟨go45, ((ji42) : Int).toNat * 8 + 2, none⟩ = some (ve45_2) := hcc45 2 _ rfl; have hx45_3 : w46.cell? ⟨go45, ((ji42) : Int).toNat * 8 + 3, none⟩ = some (.bool ((rd_T38 t466 (ji42)).f3)) := hcc45 3 _ rfl; have hx45_4 : w46.cell? ⟨go45, ((ji42) : Int).toNat * 8 + 4, none⟩ = some (.bool ((rd_T38 t466 (ji42)).f4)) := hcc45 4 _ rfl; have hx45_5 : w46.cell? ⟨go45, ((ji42) : Int).toNat * 8 + 5, none⟩ = some (.bool ((rd_T38 t466 (ji42)).f5)) := hcc45 5 _ rfl; have hx45_6 : w46.cell? ⟨go45, ((ji42) : Int).toNat * 8 + 6, none⟩ = some (.bool ((rd_T38 t466 (ji42)).f6)) := hcc45 6 _ rfl; have hx45_7 : w46.cell? ⟨go45, ((ji42) : Int).toNat * 8 + 7, none⟩ = some (.int .i64 ((rd_T38 t466 (ji42)).f7)) := hcc45 7 _ rfl; have hf45_0 : w46.frozen? ⟨go45, ((ji42) : Int).toNat * 8, none⟩ = false := hfr45 0; have hf45_1 : w46.frozen? ⟨go45, ((ji42) : Int).toNat * 8 + 1, none⟩ = false := hfr45 1; have hf45_2 : w46.frozen? ⟨go45, ((ji42) : Int).toNat * 8 + 2, none⟩ = false := hfr45 2; have hf45_3 : w46.frozen? ⟨go45, ((ji42) : Int).toNat * 8 + 3, none⟩ = false := hfr45 3; have hf45_4 : w46.frozen? ⟨go45, ((ji42) : Int).toNat * 8 + 4, none⟩ = false := hfr45 4; have hf45_5 : w46.frozen? ⟨go45, ((ji42) : Int).toNat * 8 + 5, none⟩ = false := hfr45 5; have hf45_6 : w46.frozen? ⟨go45, ((ji42) : Int).toNat * 8 + 6, none⟩ = false := hfr45 6; have hf45_7 : w46.frozen? ⟨go45, ((ji42) : Int).toNat * 8 + 7, none⟩ = false := hfr45 7; clear hcl45 hcc45 hfr45 hM45; replace p45 := eq_true p45; replace q45 := eq_true q45; have n_ := Aside0.mk (Kd.S_mono (ok' := (fun k_ => some k_ ≠ (v477 : Value).ownBlock)) HO468.out (fun k_ hk => hk.2)); clear HO468; have HO468 := n_; clear n_; have HX48 := Aside0.mk (show Kd.S k38 38 w46 w.heap.size (fun k_ => ((fun _ => True)) k_ ∧ ¬ ((fun k_ => some k_ = (v477 : Value).ownBlock)) k_) (.slice (some ⟨go45, 0, none⟩) t466.length co45) t466 from (by (with_reducible repeat (first | apply Kd.S_alloc | apply Kd.S_drewN | apply Kd.S_drew)); exact Kd.S_mono HO468.out (fun k_ hk => ⟨trivial, fun e_ => hk e_⟩))); obtain ⟨oki48, ce48, hcl48, hM48, hcc48, hfr48, hoki48, hH48⟩ := Kd.S_elem HX48.out z38 ((ji42) : Int) (of_decide_eq_true (by first | (with_reducible assumption) | assumption)) (by have h_ : ((ji42) : Int) < ((t466.length : Int) : Int) := of_decide_eq_true (by first | (with_reducible assumption) | assumption); first | exact h_ | (have e_ := (Kd.S_reads' HO468.out).1; omega) | simpa using h_); obtain ⟨ve48_2, rfl, ge48_2⟩ := k38_openM hM48; have HP48 := Kd.S_seg hH48 (of_decide_eq_true (by first | (with_reducible assumption) | assumption)) (by have h_ : ((ji42) : Int) < ((t466.length : Int) : Int) := of_decide_eq_true (by first | (with_reducible assumption) | assumption); first | exact h_ | (have e_ := (Kd.S_reads' HO468.out).1; omega) | simpa using h_) (seg := [v477]) (j := 2) (show 3 ≤ 8 from by decide) (x' := (⟨(rd_T38 t466 (ji42)).f0, (rd_T38 t466 (ji42)).f1, y476, (rd_T38 t466 (ji42)).f3, (rd_T38 t466 (ji42)).f4, (rd_T38 t466 (ji42)).f5, (rd_T38 t466 (ji42)).f6, (rd_T38 t466 (ji42)).f7⟩ : S38)) (k38_mkM _ _ _ (⟨(rd_T38 t466 (ji42)).f0, (rd_T38 t466 (ji42)).f1, y476, (rd_T38 t466 (ji42)).f3, (rd_T38 t466 (ji42)).f4, (rd_T38 t466 (ji42)).f5, (rd_T38 t466 (ji42)).f6, (rd_T38 t466 (ji42)).f7⟩ : S38) (Kd.R_mono (Kd.R_tight rfl (Kd.R_mono (ok' := fun k_ => ((fun _ => True)) k_ ∧ k_ ≠ go45) (Kd.R_apart' (HO478.out) (Kd.S_typed HO468.out) (by decide)) (fun k_ hk => ⟨trivial, fun e_ => (hk.2) (by rw [e_]; rfl)⟩))) (fun _ h_ => Or.inr (h_)))) (fun _ hk => hk) (fun k_ hk_ => ((Kd.R_mono (ok' := fun k_ => ((fun _ => True)) k_ ∧ k_ ≠ go45) (Kd.R_apart' (HO478.out) (Kd.S_typed HO468.out) (by decide)) (fun k_ hk => ⟨trivial, fun e_ => (hk.2) (by rw [e_]; rfl)⟩))).1 k_ hk_.symm); have hx48_2 := hcc48 2 _ rfl; (try simp only [show (k38).sz = 8 from rfl, Nat.mul_one, Nat.add_zero] at hx48_2); have hf48_2 := hfr48 2; (try simp only [show (k38).sz = 8 from rfl, Nat.mul_one, Nat.add_zero] at hf48_2); clear hcl48 hcc48 hfr48 hM48 hoki48 hH48) | ((with_reducible refine gate_store (t := 31) (p := 65) rfl ?_); refine store_event (t := 31) (p := 65) (v := ?vo_w49) (w1 := (w46.setCell ⟨go45, ((ji42) : Int).toNat * 8 + 2, none⟩ (v477))) ?hg ?ho ?hn ?hr ?_; (case ho => rfl); (case hg => rfl); (case hn => rfl); (case hr => obtain ⟨Ao_, co_, eo_⟩ := Kd.R_slice HO478.out; subst eo_; first | (go_simp; done) | (go_simp; rfl)); intro w49 hw; have hg : w46.grownBy w49 (some go45) := (by rw [hw]; exact HP48.2); have hp_ : Kd.S k38 38 w49 w.heap.size (fun _ => True) (.slice (some ⟨go45, 0, none⟩) t466.length co45) y479 := (by rw [hw, Ny479.out]; exact HP48.1); clear HP48; have n0_ := Aside0.mk (hp_); have n1_ := Aside0.mk ((by rw [hw]; exact below_set (HB.out) GB45.out : Below w.heap.size w w49)); clear HO468; clear HB; clear HO478; have HO468 := n0_; have HB := n1_; clear n0_ n1_; clear hg hw hp_))
                      subst hji42
                      go_meet
                      case rel => exact ⟨_, (y479), H', ⟨by first | omega | exact Nat.le_refl _⟩, ⟨by (with_reducible repeat (first | apply Kd.S_alloc | apply Kd.S_drewN | apply Kd.S_drew)); exact HO468.out⟩, ⟨by repeat (first | (with_reducible first | exact HB.out | apply below_alloc | apply pw_below_drewN | apply below_drew1) | exact HB.out)⟩⟩
                    · rw [if_neg c44] at H
                      exact absurd H (by simp)
                  · rw [if_neg c43] at H
                    exact absurd H (by simp)
                · rw [if_neg c41] at H
                  have c41b0 : ((Int.tmod a2 14) == 4) = false := beq_eq_false_iff_ne.mpr c41
                  have c41b1 : ((Int.tmod a2 14) != 4) = true := bne_iff_ne.mpr c41
                  by_cases c50 : (Int.tmod a2 14) = 5
                  · rw [if_pos c50] at H
                    have c50b0 : ((Int.tmod a2 14) == 5) = true := beq_iff_eq.mpr c50
                    have c50b1 : ((Int.tmod a2 14) != 5) = false := bne_eq_false_iff_eq.mpr c50
                    clear c50
                    obtain ⟨y480, hy480⟩ : ∃ y_ : List Int, y_ = (([2, 2] : List Int)) := ⟨_, rfl⟩
                    replace H : (if 0 ≤ (wrap64 (1 + (Int.tmod (wrap64 (a1)) (wrap64 ((wrap64 (2 + (wrap64 (Int.tmod a0 40)))) - 1))))) then (if (wrap64 (1 + (Int.tmod (wrap64 (a1)) (wrap64 ((wrap64 (2 + (wrap64 (Int.tmod a0 40)))) - 1))))) < (t466.length : Int) then (partitalaw10_TurnsErrors.j0 k true (t466.set ((wrap64 (1 + (Int.tmod (wrap64 (a1)) (wrap64 ((wrap64 (2 + (wrap64 (Int.tmod a0 40)))) - 1))))) : Int).toNat (⟨(rd_T38 t466 (wrap64 (1 + (Int.tmod (wrap64 (a1)) (wrap64 ((wrap64 (2 + (wrap64 (Int.tmod a0 40)))) - 1)))))).f0, (rd_T38 t466 (wrap64 (1 + (Int.tmod (wrap64 (a1)) (wrap64 ((wrap64 (2 + (wrap64 (Int.tmod a0 40)))) - 1)))))).f1, y480, (rd_T38 t466 (wrap64 (1 + (Int.tmod (wrap64 (a1)) (wrap64 ((wrap64 (2 + (wrap64 (Int.tmod a0 40)))) - 1)))))).f3, (rd_T38 t466 (wrap64 (1 + (Int.tmod (wrap64 (a1)) (wrap64 ((wrap64 (2 + (wrap64 (Int.tmod a0 40)))) - 1)))))).f4, (rd_T38 t466 (wrap64 (1 + (Int.tmod (wrap64 (a1)) (wrap64 ((wrap64 (2 + (wrap64 (Int.tmod a0 40)))) - 1)))))).f5, (rd_T38 t466 (wrap64 (1 + (Int.tmod (wrap64 (a1)) (wrap64 ((wrap64 (2 + (wrap64 (Int.tmod a0 40)))) - 1)))))).f6, (rd_T38 t466 (wrap64 (1 + (Int.tmod (wrap64 (a1)) (wrap64 ((wrap64 (2 + (wrap64 (Int.tmod a0 40)))) - 1)))))).f7⟩ : S38)) (wrap64 (1 + (Int.tmod (wrap64 (a1)) (wrap64 ((wrap64 (2 + (wrap64 (Int.tmod a0 40)))) - 1)))))) else (none)) else (none)) = some r := by first | (rw [hy480]; with_reducible exact H) | (have H2_ := (Option.bind_some _ _).symm.trans H; rw [hy480]; with_reducible exact H2_) | (have H2_ := (Option.bind_some _ _).symm.trans H; with_reducible exact H2_) | with_reducible exact H | (rw [hy480]; exact H) | exact H
                    have Ny480 := Aside0.mk hy480
                    clear hy480
                    obtain ⟨ji51, hji51⟩ : ∃ j_ : Int, (wrap64 (1 + (Int.tmod (wrap64 (a1)) (wrap64 ((wrap64 (2 + (wrap64 (Int.tmod a0 40)))) - 1))))) = j_ := ⟨_, rfl⟩
                    replace H : (if 0 ≤ (ji51) then (if (ji51) < (t466.length : Int) then (partitalaw10_TurnsErrors.j0 k true (t466.set ((ji51) : Int).toNat (⟨(rd_T38 t466 (ji51)).f0, (rd_T38 t466 (ji51)).f1, y480, (rd_T38 t466 (ji51)).f3, (rd_T38 t466 (ji51)).f4, (rd_T38 t466 (ji51)).f5, (rd_T38 t466 (ji51)).f6, (rd_T38 t466 (ji51)).f7⟩ : S38)) ji51) else (none)) else (none)) = some r := by first | (rw [hji51] at H; exact H) | (simp only [hji51] at H ⊢; exact H)
                    have hji51w : (IntKind.i64.wrap (1 + (Int.tmod (wrap64 (a1)) (wrap64 ((wrap64 (2 + (wrap64 (Int.tmod a0 40)))) - 1))))) = ji51 := (i64_w _).trans hji51
                    by_cases c52 : 0 ≤ (ji51)
                    · rw [if_pos c52] at H
                      have c52b0 : decide (0 ≤ (ji51)) = true := decide_eq_true c52
                      clear c52
                      by_cases c53 : (ji51) < (t466.length : Int)
                      · rw [if_pos c53] at H
                        have c53b0 : decide ((ji51) < (t466.length : Int)) = true := decide_eq_true c53
                        clear c53
                        obtain ⟨y483, hy483⟩ : ∃ y_ : List (S38), y_ = (t466.set ((ji51) : Int).toNat (⟨(rd_T38 t466 (ji51)).f0, (rd_T38 t466 (ji51)).f1, y480, (rd_T38 t466 (ji51)).f3, (rd_T38 t466 (ji51)).f4, (rd_T38 t466 (ji51)).f5, (rd_T38 t466 (ji51)).f6, (rd_T38 t466 (ji51)).f7⟩ : S38)) := ⟨_, rfl⟩
                        replace H : (partitalaw10_TurnsErrors.j0 k true y483 ji51) = some r := by first | (rw [hy483]; with_reducible exact H) | (have H2_ := (Option.bind_some _ _).symm.trans H; rw [hy483]; with_reducible exact H2_) | (have H2_ := (Option.bind_some _ _).symm.trans H; with_reducible exact H2_) | with_reducible exact H | (rw [hy483]; exact H) | exact H
                        have Ny483 := Aside0.mk hy483
                        clear hy483
                        have H' := Aside0.mk H
                        clear H
                        go_wp2_with (first | ((with_reducible refine gate_dst (N := 70) rfl ?_); (try (refine gate_guard (by rfl) ?_; dsimp only)); refine Kd.R_lit (Kd.int .i64) _ 3 ?hg (N := 70) ?hd (xs := ([2, 2] : List Int)) (inner := [.int .i64 2, .int .i64 2]) (ok := fun _ => True) (okp := fun _ => True) ?hr ?hp (fun _ hk => hk) trivial (Below.refl _ _) (Nat.le_refl _) (by simp) ?_; (case hd => rfl); (case hg => rfl); (case hr => first | (go_simp; done) | (go_simp; rfl)); (case hp => exact (Reps.one (show Kd.M (Kd.int .i64) _ _ _ 2 [.int .i64 2] from rfl) (Reps.one (show Kd.M (Kd.int .i64) _ _ _ 2 [.int .i64 2] from rfl) (Reps.none _ _)))); intro v481 w55 ho56 hb hg_ hnew_; clear hg_ hnew_; (first | rw [← Ny480.out] at ho56 | (simp only [Int.reduceToNat] at ho56; rw [← Ny480.out] at ho56)); have n0_ := Aside0.mk (Kd.S_elder' (by (with_reducible repeat (first | apply Kd.S_alloc | apply Kd.S_drewN | apply Kd.S_drew)); exact HO468.out) (Kd.R_base ho56) hb); have n1_ := Aside0.mk (Kd.R_lower ho56 (below_size (by repeat (first | (with_reducible first | exact HB.out | apply below_alloc | apply pw_below_drewN | apply below_drew1) | exact HB.out)))); have n2_ := Aside0.mk (below_step (by repeat (first | (with_reducible first | exact HB.out | apply below_alloc | apply pw_below_drewN | apply below_drew1) | exact HB.out)) hb); clear HO468; clear HB; have HO468 := n0_; have HO482 := n1_; have HB := n2_; clear n0_ n1_ n2_; clear hb ho56; have p54 : 0 ≤ ((ji51) : Int) := of_decide_eq_true (by first | (with_reducible assumption) | assumption); have q54 : ((ji51) : Int) < ((t466.length : Int) : Int) := of_decide_eq_true (by first | (with_reducible assumption) | assumption); obtain ⟨go54, co54, eo54, gb54, gl54, cl54, HG54⟩ := Kd.S_form HO468.out (by omega); (first | cases eo54 | (injection eo54 with ea_ en_ ec_; (first | subst ea_ | (injection ea_ with ea_; subst ea_)); subst ec_; clear en_)); have GB54 := Aside0.mk gb54; have GG54 := Aside0.mk HG54; clear gb54 gl54 HG54; obtain ⟨_, ce54, hcl54, hM54, hcc54, hfr54, _, _⟩ := Kd.S_elem HO468.out z38 ((ji51) : Int) p54 q54; obtain ⟨ve54_2, rfl, ge54_2⟩ := k38_openM hM54; have hx54_0 : w55.cell? ⟨go54, ((ji51) : Int).toNat * 8, none⟩ = some (.bool ((rd_T38 t466 (ji51)).f0)) := hcc54 0 _ rfl; have hx54_1 : w55.cell? ⟨go54, ((ji51) : Int).toNat * 8 + 1, none⟩ = some (.int .i64 ((rd_T38 t466 (ji51)).f1)) := hcc54 1 _ rfl; have hx54_2 : w55.cell? ⟨go54, ((ji51) : Int).toNat * 8 + 2, none⟩ = some (ve54_2) := hcc54 2 _ rfl; have hx54_3 : w55.cell? ⟨go54, ((ji51) : Int).toNat * 8 + 3, none⟩ = some (.bool ((rd_T38 t466 (ji51)).f3)) := hcc54 3 _ rfl; have hx54_4 : w55.cell? ⟨go54, ((ji51) : Int).toNat * 8 + 4, none⟩ = some (.bool ((rd_T38 t466 (ji51)).f4)) := hcc54 4 _ rfl; have hx54_5 : w55.cell? ⟨go54, ((ji51) : Int).toNat * 8 + 5, none⟩ = some (.bool ((rd_T38 t466 (ji51)).f5)) := hcc54 5 _ rfl; have hx54_6 : w55.cell? ⟨go54, ((ji51) : Int).toNat * 8 + 6, none⟩ = some (.bool ((rd_T38 t466 (ji51)).f6)) := hcc54 6 _ rfl; have hx54_7 : w55.cell? ⟨go54, ((ji51) : Int).toNat * 8 + 7, none⟩ = some (.int .i64 ((rd_T38 t466 (ji51)).f7)) := hcc54 7 _ rfl; have hf54_0 : w55.frozen? ⟨go54, ((ji51) : Int).toNat * 8, none⟩ = false := hfr54 0; have hf54_1 : w55.frozen? ⟨go54, ((ji51) : Int).toNat * 8 + 1, none⟩ = false := hfr54 1; have hf54_2 : w55.frozen? ⟨go54, ((ji51) : Int).toNat * 8 + 2, none⟩ = false := hfr54 2; have hf54_3 : w55.frozen? ⟨go54, ((ji51) : Int).toNat * 8 + 3, none⟩ = false := hfr54 3; have hf54_4 : w55.frozen? ⟨go54, ((ji51) : Int).toNat * 8 + 4, none⟩ = false := hfr54 4; have hf54_5 : w55.frozen? ⟨go54, ((ji51) : Int).toNat * 8 + 5, none⟩ = false := hfr54 5; have hf54_6 : w55.frozen? ⟨go54, ((ji51) : Int).toNat * 8 + 6, none⟩ = false := hfr54 6; have hf54_7 : w55.frozen? ⟨go54, ((ji51) : Int).toNat * 8 + 7, none⟩ = false := hfr54 7; clear hcl54 hcc54 hfr54 hM54; replace p54 := eq_true p54; replace q54 := eq_true q54; have n_ := Aside0.mk (Kd.S_mono (ok' := (fun k_ => some k_ ≠ (v481 : Value).ownBlock)) HO468.out (fun k_ hk => hk.2)); clear HO468; have HO468 := n_; clear n_; have HX57 := Aside0.mk (show Kd.S k38 38 w55 w.heap.size (fun k_ => ((fun _ => True)) k_ ∧ ¬ ((fun k_ => some k_ = (v481 : Value).ownBlock)) k_) (.slice (some ⟨go54, 0, none⟩) t466.length co54) t466 from (by (with_reducible repeat (first | apply Kd.S_alloc | apply Kd.S_drewN | apply Kd.S_drew)); exact Kd.S_mono HO468.out (fun k_ hk => ⟨trivial, fun e_ => hk e_⟩))); obtain ⟨oki57, ce57, hcl57, hM57, hcc57, hfr57, hoki57, hH57⟩ := Kd.S_elem HX57.out z38 ((ji51) : Int) (of_decide_eq_true (by first | (with_reducible assumption) | assumption)) (by have h_ : ((ji51) : Int) < ((t466.length : Int) : Int) := of_decide_eq_true (by first | (with_reducible assumption) | assumption); first | exact h_ | (have e_ := (Kd.S_reads' HO468.out).1; omega) | simpa using h_); obtain ⟨ve57_2, rfl, ge57_2⟩ := k38_openM hM57; have HP57 := Kd.S_seg hH57 (of_decide_eq_true (by first | (with_reducible assumption) | assumption)) (by have h_ : ((ji51) : Int) < ((t466.length : Int) : Int) := of_decide_eq_true (by first | (with_reducible assumption) | assumption); first | exact h_ | (have e_ := (Kd.S_reads' HO468.out).1; omega) | simpa using h_) (seg := [v481]) (j := 2) (show 3 ≤ 8 from by decide) (x' := (⟨(rd_T38 t466 (ji51)).f0, (rd_T38 t466 (ji51)).f1, y480, (rd_T38 t466 (ji51)).f3, (rd_T38 t466 (ji51)).f4, (rd_T38 t466 (ji51)).f5, (rd_T38 t466 (ji51)).f6, (rd_T38 t466 (ji51)).f7⟩ : S38)) (k38_mkM _ _ _ (⟨(rd_T38 t466 (ji51)).f0, (rd_T38 t466 (ji51)).f1, y480, (rd_T38 t466 (ji51)).f3, (rd_T38 t466 (ji51)).f4, (rd_T38 t466 (ji51)).f5, (rd_T38 t466 (ji51)).f6, (rd_T38 t466 (ji51)).f7⟩ : S38) (Kd.R_mono (Kd.R_tight rfl (Kd.R_mono (ok' := fun k_ => ((fun _ => True)) k_ ∧ k_ ≠ go54) (Kd.R_apart' (HO482.out) (Kd.S_typed HO468.out) (by decide)) (fun k_ hk => ⟨trivial, fun e_ => (hk.2) (by rw [e_]; rfl)⟩))) (fun _ h_ => Or.inr (h_)))) (fun _ hk => hk) (fun k_ hk_ => ((Kd.R_mono (ok' := fun k_ => ((fun _ => True)) k_ ∧ k_ ≠ go54) (Kd.R_apart' (HO482.out) (Kd.S_typed HO468.out) (by decide)) (fun k_ hk => ⟨trivial, fun e_ => (hk.2) (by rw [e_]; rfl)⟩))).1 k_ hk_.symm); have hx57_2 := hcc57 2 _ rfl; (try simp only [show (k38).sz = 8 from rfl, Nat.mul_one, Nat.add_zero] at hx57_2); have hf57_2 := hfr57 2; (try simp only [show (k38).sz = 8 from rfl, Nat.mul_one, Nat.add_zero] at hf57_2); clear hcl57 hcc57 hfr57 hM57 hoki57 hH57) | ((with_reducible refine gate_store (t := 31) (p := 72) rfl ?_); refine store_event (t := 31) (p := 72) (v := ?vo_w58) (w1 := (w55.setCell ⟨go54, ((ji51) : Int).toNat * 8 + 2, none⟩ (v481))) ?hg ?ho ?hn ?hr ?_; (case ho => rfl); (case hg => rfl); (case hn => rfl); (case hr => obtain ⟨Ao_, co_, eo_⟩ := Kd.R_slice HO482.out; subst eo_; first | (go_simp; done) | (go_simp; rfl)); intro w58 hw; have hg : w55.grownBy w58 (some go54) := (by rw [hw]; exact HP57.2); have hp_ : Kd.S k38 38 w58 w.heap.size (fun _ => True) (.slice (some ⟨go54, 0, none⟩) t466.length co54) y483 := (by rw [hw, Ny483.out]; exact HP57.1); clear HP57; have n0_ := Aside0.mk (hp_); have n1_ := Aside0.mk ((by rw [hw]; exact below_set (HB.out) GB54.out : Below w.heap.size w w58)); clear HO468; clear HB; clear HO482; have HO468 := n0_; have HB := n1_; clear n0_ n1_; clear hg hw hp_))
                        subst hji51
                        go_meet
                        case rel => exact ⟨_, (y483), H', ⟨by first | omega | exact Nat.le_refl _⟩, ⟨by (with_reducible repeat (first | apply Kd.S_alloc | apply Kd.S_drewN | apply Kd.S_drew)); exact HO468.out⟩, ⟨by repeat (first | (with_reducible first | exact HB.out | apply below_alloc | apply pw_below_drewN | apply below_drew1) | exact HB.out)⟩⟩
                      · rw [if_neg c53] at H
                        exact absurd H (by simp)
                    · rw [if_neg c52] at H
                      exact absurd H (by simp)
                  · rw [if_neg c50] at H
                    have c50b0 : ((Int.tmod a2 14) == 5) = false := beq_eq_false_iff_ne.mpr c50
                    have c50b1 : ((Int.tmod a2 14) != 5) = true := bne_iff_ne.mpr c50
                    by_cases c59 : (Int.tmod a2 14) = 6
                    · rw [if_pos c59] at H
                      have c59b0 : ((Int.tmod a2 14) == 6) = true := beq_iff_eq.mpr c59
                      have c59b1 : ((Int.tmod a2 14) != 6) = false := bne_eq_false_iff_eq.mpr c59
                      clear c59
                      obtain ⟨y484, hy484⟩ : ∃ y_ : List Int, y_ = (([2, 1] : List Int)) := ⟨_, rfl⟩
                      replace H : (if 0 ≤ (wrap64 (1 + (Int.tmod (wrap64 (a1)) (wrap64 ((wrap64 (2 + (wrap64 (Int.tmod a0 40)))) - 1))))) then (if (wrap64 (1 + (Int.tmod (wrap64 (a1)) (wrap64 ((wrap64 (2 + (wrap64 (Int.tmod a0 40)))) - 1))))) < (t466.length : Int) then (partitalaw10_TurnsErrors.j0 k true (t466.set ((wrap64 (1 + (Int.tmod (wrap64 (a1)) (wrap64 ((wrap64 (2 + (wrap64 (Int.tmod a0 40)))) - 1))))) : Int).toNat (⟨(rd_T38 t466 (wrap64 (1 + (Int.tmod (wrap64 (a1)) (wrap64 ((wrap64 (2 + (wrap64 (Int.tmod a0 40)))) - 1)))))).f0, (rd_T38 t466 (wrap64 (1 + (Int.tmod (wrap64 (a1)) (wrap64 ((wrap64 (2 + (wrap64 (Int.tmod a0 40)))) - 1)))))).f1, y484, (rd_T38 t466 (wrap64 (1 + (Int.tmod (wrap64 (a1)) (wrap64 ((wrap64 (2 + (wrap64 (Int.tmod a0 40)))) - 1)))))).f3, (rd_T38 t466 (wrap64 (1 + (Int.tmod (wrap64 (a1)) (wrap64 ((wrap64 (2 + (wrap64 (Int.tmod a0 40)))) - 1)))))).f4, (rd_T38 t466 (wrap64 (1 + (Int.tmod (wrap64 (a1)) (wrap64 ((wrap64 (2 + (wrap64 (Int.tmod a0 40)))) - 1)))))).f5, (rd_T38 t466 (wrap64 (1 + (Int.tmod (wrap64 (a1)) (wrap64 ((wrap64 (2 + (wrap64 (Int.tmod a0 40)))) - 1)))))).f6, (rd_T38 t466 (wrap64 (1 + (Int.tmod (wrap64 (a1)) (wrap64 ((wrap64 (2 + (wrap64 (Int.tmod a0 40)))) - 1)))))).f7⟩ : S38)) (wrap64 (1 + (Int.tmod (wrap64 (a1)) (wrap64 ((wrap64 (2 + (wrap64 (Int.tmod a0 40)))) - 1)))))) else (none)) else (none)) = some r := by first | (rw [hy484]; with_reducible exact H) | (have H2_ := (Option.bind_some _ _).symm.trans H; rw [hy484]; with_reducible exact H2_) | (have H2_ := (Option.bind_some _ _).symm.trans H; with_reducible exact H2_) | with_reducible exact H | (rw [hy484]; exact H) | exact H
                      have Ny484 := Aside0.mk hy484
                      clear hy484
                      obtain ⟨ji60, hji60⟩ : ∃ j_ : Int, (wrap64 (1 + (Int.tmod (wrap64 (a1)) (wrap64 ((wrap64 (2 + (wrap64 (Int.tmod a0 40)))) - 1))))) = j_ := ⟨_, rfl⟩
                      replace H : (if 0 ≤ (ji60) then (if (ji60) < (t466.length : Int) then (partitalaw10_TurnsErrors.j0 k true (t466.set ((ji60) : Int).toNat (⟨(rd_T38 t466 (ji60)).f0, (rd_T38 t466 (ji60)).f1, y484, (rd_T38 t466 (ji60)).f3, (rd_T38 t466 (ji60)).f4, (rd_T38 t466 (ji60)).f5, (rd_T38 t466 (ji60)).f6, (rd_T38 t466 (ji60)).f7⟩ : S38)) ji60) else (none)) else (none)) = some r := by first | (rw [hji60] at H; exact H) | (simp only [hji60] at H ⊢; exact H)
                      have hji60w : (IntKind.i64.wrap (1 + (Int.tmod (wrap64 (a1)) (wrap64 ((wrap64 (2 + (wrap64 (Int.tmod a0 40)))) - 1))))) = ji60 := (i64_w _).trans hji60
                      by_cases c61 : 0 ≤ (ji60)
                      · rw [if_pos c61] at H
                        have c61b0 : decide (0 ≤ (ji60)) = true := decide_eq_true c61
                        clear c61
                        by_cases c62 : (ji60) < (t466.length : Int)
                        · rw [if_pos c62] at H
                          have c62b0 : decide ((ji60) < (t466.length : Int)) = true := decide_eq_true c62
                          clear c62
                          obtain ⟨y487, hy487⟩ : ∃ y_ : List (S38), y_ = (t466.set ((ji60) : Int).toNat (⟨(rd_T38 t466 (ji60)).f0, (rd_T38 t466 (ji60)).f1, y484, (rd_T38 t466 (ji60)).f3, (rd_T38 t466 (ji60)).f4, (rd_T38 t466 (ji60)).f5, (rd_T38 t466 (ji60)).f6, (rd_T38 t466 (ji60)).f7⟩ : S38)) := ⟨_, rfl⟩
                          replace H : (partitalaw10_TurnsErrors.j0 k true y487 ji60) = some r := by first | (rw [hy487]; with_reducible exact H) | (have H2_ := (Option.bind_some _ _).symm.trans H; rw [hy487]; with_reducible exact H2_) | (have H2_ := (Option.bind_some _ _).symm.trans H; with_reducible exact H2_) | with_reducible exact H | (rw [hy487]; exact H) | exact H
                          have Ny487 := Aside0.mk hy487
                          clear hy487
                          have H' := Aside0.mk H
                          clear H
                          go_wp2_with (first | ((with_reducible refine gate_dst (N := 77) rfl ?_); (try (refine gate_guard (by rfl) ?_; dsimp only)); refine Kd.R_lit (Kd.int .i64) _ 3 ?hg (N := 77) ?hd (xs := ([2, 1] : List Int)) (inner := [.int .i64 2, .int .i64 1]) (ok := fun _ => True) (okp := fun _ => True) ?hr ?hp (fun _ hk => hk) trivial (Below.refl _ _) (Nat.le_refl _) (by simp) ?_; (case hd => rfl); (case hg => rfl); (case hr => first | (go_simp; done) | (go_simp; rfl)); (case hp => exact (Reps.one (show Kd.M (Kd.int .i64) _ _ _ 2 [.int .i64 2] from rfl) (Reps.one (show Kd.M (Kd.int .i64) _ _ _ 1 [.int .i64 1] from rfl) (Reps.none _ _)))); intro v485 w64 ho65 hb hg_ hnew_; clear hg_ hnew_; (first | rw [← Ny484.out] at ho65 | (simp only [Int.reduceToNat] at ho65; rw [← Ny484.out] at ho65)); have n0_ := Aside0.mk (Kd.S_elder' (by (with_reducible repeat (first | apply Kd.S_alloc | apply Kd.S_drewN | apply Kd.S_drew)); exact HO468.out) (Kd.R_base ho65) hb); have n1_ := Aside0.mk (Kd.R_lower ho65 (below_size (by repeat (first | (with_reducible first | exact HB.out | apply below_alloc | apply pw_below_drewN | apply below_drew1) | exact HB.out)))); have n2_ := Aside0.mk (below_step (by repeat (first | (with_reducible first | exact HB.out | apply below_alloc | apply pw_below_drewN | apply below_drew1) | exact HB.out)) hb); clear HO468; clear HB; have HO468 := n0_; have HO486 := n1_; have HB := n2_; clear n0_ n1_ n2_; clear hb ho65; have p63 : 0 ≤ ((ji60) : Int) := of_decide_eq_true (by first | (with_reducible assumption) | assumption); have q63 : ((ji60) : Int) < ((t466.length : Int) : Int) := of_decide_eq_true (by first | (with_reducible assumption) | assumption); obtain ⟨go63, co63, eo63, gb63, gl63, cl63, HG63⟩ := Kd.S_form HO468.out (by omega); (first | cases eo63 | (injection eo63 with ea_ en_ ec_; (first | subst ea_ | (injection ea_ with ea_; subst ea_)); subst ec_; clear en_)); have GB63 := Aside0.mk gb63; have GG63 := Aside0.mk HG63; clear gb63 gl63 HG63; obtain ⟨_, ce63, hcl63, hM63, hcc63, hfr63, _, _⟩ := Kd.S_elem HO468.out z38 ((ji60) : Int) p63 q63; obtain ⟨ve63_2, rfl, ge63_2⟩ := k38_openM hM63; have hx63_0 : w64.cell? ⟨go63, ((ji60) : Int).toNat * 8, none⟩ = some (.bool ((rd_T38 t466 (ji60)).f0)) := hcc63 0 _ rfl; have hx63_1 : w64.cell? ⟨go63, ((ji60) : Int).toNat * 8 + 1, none⟩ = some (.int .i64 ((rd_T38 t466 (ji60)).f1)) := hcc63 1 _ rfl; have hx63_2 : w64.cell? ⟨go63, ((ji60) : Int).toNat * 8 + 2, none⟩ = some (ve63_2) := hcc63 2 _ rfl; have hx63_3 : w64.cell? ⟨go63, ((ji60) : Int).toNat * 8 + 3, none⟩ = some (.bool ((rd_T38 t466 (ji60)).f3)) := hcc63 3 _ rfl; have hx63_4 : w64.cell? ⟨go63, ((ji60) : Int).toNat * 8 + 4, none⟩ = some (.bool ((rd_T38 t466 (ji60)).f4)) := hcc63 4 _ rfl; have hx63_5 : w64.cell? ⟨go63, ((ji60) : Int).toNat * 8 + 5, none⟩ = some (.bool ((rd_T38 t466 (ji60)).f5)) := hcc63 5 _ rfl; have hx63_6 : w64.cell? ⟨go63, ((ji60) : Int).toNat * 8 + 6, none⟩ = some (.bool ((rd_T38 t466 (ji60)).f6)) := hcc63 6 _ rfl; have hx63_7 : w64.cell? ⟨go63, ((ji60) : Int).toNat * 8 + 7, none⟩ = some (.int .i64 ((rd_T38 t466 (ji60)).f7)) := hcc63 7 _ rfl; have hf63_0 : w64.frozen? ⟨go63, ((ji60) : Int).toNat * 8, none⟩ = false := hfr63 0; have hf63_1 : w64.frozen? ⟨go63, ((ji60) : Int).toNat * 8 + 1, none⟩ = false := hfr63 1; have hf63_2 : w64.frozen? ⟨go63, ((ji60) : Int).toNat * 8 + 2, none⟩ = false := hfr63 2; have hf63_3 : w64.frozen? ⟨go63, ((ji60) : Int).toNat * 8 + 3, none⟩ = false := hfr63 3; have hf63_4 : w64.frozen? ⟨go63, ((ji60) : Int).toNat * 8 + 4, none⟩ = false := hfr63 4; have hf63_5 : w64.frozen? ⟨go63, ((ji60) : Int).toNat * 8 + 5, none⟩ = false := hfr63 5; have hf63_6 : w64.frozen? ⟨go63, ((ji60) : Int).toNat * 8 + 6, none⟩ = false := hfr63 6; have hf63_7 : w64.frozen? ⟨go63, ((ji60) : Int).toNat * 8 + 7, none⟩ = false := hfr63 7; clear hcl63 hcc63 hfr63 hM63; replace p63 := eq_true p63; replace q63 := eq_true q63; have n_ := Aside0.mk (Kd.S_mono (ok' := (fun k_ => some k_ ≠ (v485 : Value).ownBlock)) HO468.out (fun k_ hk => hk.2)); clear HO468; have HO468 := n_; clear n_; have HX66 := Aside0.mk (show Kd.S k38 38 w64 w.heap.size (fun k_ => ((fun _ => True)) k_ ∧ ¬ ((fun k_ => some k_ = (v485 : Value).ownBlock)) k_) (.slice (some ⟨go63, 0, none⟩) t466.length co63) t466 from (by (with_reducible repeat (first | apply Kd.S_alloc | apply Kd.S_drewN | apply Kd.S_drew)); exact Kd.S_mono HO468.out (fun k_ hk => ⟨trivial, fun e_ => hk e_⟩))); obtain ⟨oki66, ce66, hcl66, hM66, hcc66, hfr66, hoki66, hH66⟩ := Kd.S_elem HX66.out z38 ((ji60) : Int) (of_decide_eq_true (by first | (with_reducible assumption) | assumption)) (by have h_ : ((ji60) : Int) < ((t466.length : Int) : Int) := of_decide_eq_true (by first | (with_reducible assumption) | assumption); first | exact h_ | (have e_ := (Kd.S_reads' HO468.out).1; omega) | simpa using h_); obtain ⟨ve66_2, rfl, ge66_2⟩ := k38_openM hM66; have HP66 := Kd.S_seg hH66 (of_decide_eq_true (by first | (with_reducible assumption) | assumption)) (by have h_ : ((ji60) : Int) < ((t466.length : Int) : Int) := of_decide_eq_true (by first | (with_reducible assumption) | assumption); first | exact h_ | (have e_ := (Kd.S_reads' HO468.out).1; omega) | simpa using h_) (seg := [v485]) (j := 2) (show 3 ≤ 8 from by decide) (x' := (⟨(rd_T38 t466 (ji60)).f0, (rd_T38 t466 (ji60)).f1, y484, (rd_T38 t466 (ji60)).f3, (rd_T38 t466 (ji60)).f4, (rd_T38 t466 (ji60)).f5, (rd_T38 t466 (ji60)).f6, (rd_T38 t466 (ji60)).f7⟩ : S38)) (k38_mkM _ _ _ (⟨(rd_T38 t466 (ji60)).f0, (rd_T38 t466 (ji60)).f1, y484, (rd_T38 t466 (ji60)).f3, (rd_T38 t466 (ji60)).f4, (rd_T38 t466 (ji60)).f5, (rd_T38 t466 (ji60)).f6, (rd_T38 t466 (ji60)).f7⟩ : S38) (Kd.R_mono (Kd.R_tight rfl (Kd.R_mono (ok' := fun k_ => ((fun _ => True)) k_ ∧ k_ ≠ go63) (Kd.R_apart' (HO486.out) (Kd.S_typed HO468.out) (by decide)) (fun k_ hk => ⟨trivial, fun e_ => (hk.2) (by rw [e_]; rfl)⟩))) (fun _ h_ => Or.inr (h_)))) (fun _ hk => hk) (fun k_ hk_ => ((Kd.R_mono (ok' := fun k_ => ((fun _ => True)) k_ ∧ k_ ≠ go63) (Kd.R_apart' (HO486.out) (Kd.S_typed HO468.out) (by decide)) (fun k_ hk => ⟨trivial, fun e_ => (hk.2) (by rw [e_]; rfl)⟩))).1 k_ hk_.symm); have hx66_2 := hcc66 2 _ rfl; (try simp only [show (k38).sz = 8 from rfl, Nat.mul_one, Nat.add_zero] at hx66_2); have hf66_2 := hfr66 2; (try simp only [show (k38).sz = 8 from rfl, Nat.mul_one, Nat.add_zero] at hf66_2); clear hcl66 hcc66 hfr66 hM66 hoki66 hH66) | ((with_reducible refine gate_store (t := 31) (p := 79) rfl ?_); refine store_event (t := 31) (p := 79) (v := ?vo_w67) (w1 := (w64.setCell ⟨go63, ((ji60) : Int).toNat * 8 + 2, none⟩ (v485))) ?hg ?ho ?hn ?hr ?_; (case ho => rfl); (case hg => rfl); (case hn => rfl); (case hr => obtain ⟨Ao_, co_, eo_⟩ := Kd.R_slice HO486.out; subst eo_; first | (go_simp; done) | (go_simp; rfl)); intro w67 hw; have hg : w64.grownBy w67 (some go63) := (by rw [hw]; exact HP66.2); have hp_ : Kd.S k38 38 w67 w.heap.size (fun _ => True) (.slice (some ⟨go63, 0, none⟩) t466.length co63) y487 := (by rw [hw, Ny487.out]; exact HP66.1); clear HP66; have n0_ := Aside0.mk (hp_); have n1_ := Aside0.mk ((by rw [hw]; exact below_set (HB.out) GB63.out : Below w.heap.size w w67)); clear HO468; clear HB; clear HO486; have HO468 := n0_; have HB := n1_; clear n0_ n1_; clear hg hw hp_))
                          subst hji60
                          go_meet
                          case rel => exact ⟨_, (y487), H', ⟨by first | omega | exact Nat.le_refl _⟩, ⟨by (with_reducible repeat (first | apply Kd.S_alloc | apply Kd.S_drewN | apply Kd.S_drew)); exact HO468.out⟩, ⟨by repeat (first | (with_reducible first | exact HB.out | apply below_alloc | apply pw_below_drewN | apply below_drew1) | exact HB.out)⟩⟩
                        · rw [if_neg c62] at H
                          exact absurd H (by simp)
                      · rw [if_neg c61] at H
                        exact absurd H (by simp)
                    · rw [if_neg c59] at H
                      have c59b0 : ((Int.tmod a2 14) == 6) = false := beq_eq_false_iff_ne.mpr c59
                      have c59b1 : ((Int.tmod a2 14) != 6) = true := bne_iff_ne.mpr c59
                      by_cases c68 : (Int.tmod a2 14) = 7
                      · rw [if_pos c68] at H
                        have c68b0 : ((Int.tmod a2 14) == 7) = true := beq_iff_eq.mpr c68
                        have c68b1 : ((Int.tmod a2 14) != 7) = false := bne_eq_false_iff_eq.mpr c68
                        clear c68
                        obtain ⟨ji69, hji69⟩ : ∃ j_ : Int, (wrap64 (1 + (Int.tmod (wrap64 (a1)) (wrap64 ((wrap64 (2 + (wrap64 (Int.tmod a0 40)))) - 1))))) = j_ := ⟨_, rfl⟩
                        replace H : (if 0 ≤ (ji69) then (if (ji69) < (t466.length : Int) then (partitalaw10_TurnsErrors.j0 k true (t466.set ((ji69) : Int).toNat (⟨(rd_T38 t466 (ji69)).f0, (rd_T38 t466 (ji69)).f1, (rd_T38 t466 (ji69)).f2, (rd_T38 t466 (ji69)).f3, (rd_T38 t466 (ji69)).f4, (rd_T38 t466 (ji69)).f5, (rd_T38 t466 (ji69)).f6, 7⟩ : S38)) ji69) else (none)) else (none)) = some r := by first | (rw [hji69] at H; exact H) | (simp only [hji69] at H ⊢; exact H)
                        have hji69w : (IntKind.i64.wrap (1 + (Int.tmod (wrap64 (a1)) (wrap64 ((wrap64 (2 + (wrap64 (Int.tmod a0 40)))) - 1))))) = ji69 := (i64_w _).trans hji69
                        by_cases c70 : 0 ≤ (ji69)
                        · rw [if_pos c70] at H
                          have c70b0 : decide (0 ≤ (ji69)) = true := decide_eq_true c70
                          clear c70
                          by_cases c71 : (ji69) < (t466.length : Int)
                          · rw [if_pos c71] at H
                            have c71b0 : decide ((ji69) < (t466.length : Int)) = true := decide_eq_true c71
                            clear c71
                            obtain ⟨y488, hy488⟩ : ∃ y_ : List (S38), y_ = (t466.set ((ji69) : Int).toNat (⟨(rd_T38 t466 (ji69)).f0, (rd_T38 t466 (ji69)).f1, (rd_T38 t466 (ji69)).f2, (rd_T38 t466 (ji69)).f3, (rd_T38 t466 (ji69)).f4, (rd_T38 t466 (ji69)).f5, (rd_T38 t466 (ji69)).f6, 7⟩ : S38)) := ⟨_, rfl⟩
                            replace H : (partitalaw10_TurnsErrors.j0 k true y488 ji69) = some r := by first | (rw [hy488]; with_reducible exact H) | (have H2_ := (Option.bind_some _ _).symm.trans H; rw [hy488]; with_reducible exact H2_) | (have H2_ := (Option.bind_some _ _).symm.trans H; with_reducible exact H2_) | with_reducible exact H | (rw [hy488]; exact H) | exact H
                            have Ny488 := Aside0.mk hy488
                            clear hy488
                            have H' := Aside0.mk H
                            clear H
                            have p72 : 0 ≤ ((ji69) : Int) := of_decide_eq_true (by first | (with_reducible assumption) | assumption)
                            have q72 : ((ji69) : Int) < ((t466.length : Int) : Int) := of_decide_eq_true (by first | (with_reducible assumption) | assumption)
                            obtain ⟨go72, co72, eo72, gb72, gl72, cl72, HG72⟩ := Kd.S_form HO468.out (by omega)
                            (first | cases eo72 | (injection eo72 with ea_ en_ ec_; (first | subst ea_ | (injection ea_ with ea_; subst ea_)); subst ec_; clear en_))
                            have GB72 := Aside0.mk gb72
                            have GG72 := Aside0.mk HG72
                            clear gb72 gl72 HG72
                            obtain ⟨_, ce72, hcl72, hM72, hcc72, hfr72, _, _⟩ := Kd.S_elem HO468.out z38 ((ji69) : Int) p72 q72
                            obtain ⟨ve72_2, rfl, ge72_2⟩ := k38_openM hM72
                            have hx72_0 : w10.cell? ⟨go72, ((ji69) : Int).toNat * 8, none⟩ = some (.bool ((rd_T38 t466 (ji69)).f0)) := hcc72 0 _ rfl
                            have hx72_1 : w10.cell? ⟨go72, ((ji69) : Int).toNat * 8 + 1, none⟩ = some (.int .i64 ((rd_T38 t466 (ji69)).f1)) := hcc72 1 _ rfl
                            have hx72_2 : w10.cell? ⟨go72, ((ji69) : Int).toNat * 8 + 2, none⟩ = some (ve72_2) := hcc72 2 _ rfl
                            have hx72_3 : w10.cell? ⟨go72, ((ji69) : Int).toNat * 8 + 3, none⟩ = some (.bool ((rd_T38 t466 (ji69)).f3)) := hcc72 3 _ rfl
                            have hx72_4 : w10.cell? ⟨go72, ((ji69) : Int).toNat * 8 + 4, none⟩ = some (.bool ((rd_T38 t466 (ji69)).f4)) := hcc72 4 _ rfl
                            have hx72_5 : w10.cell? ⟨go72, ((ji69) : Int).toNat * 8 + 5, none⟩ = some (.bool ((rd_T38 t466 (ji69)).f5)) := hcc72 5 _ rfl
                            have hx72_6 : w10.cell? ⟨go72, ((ji69) : Int).toNat * 8 + 6, none⟩ = some (.bool ((rd_T38 t466 (ji69)).f6)) := hcc72 6 _ rfl
                            have hx72_7 : w10.cell? ⟨go72, ((ji69) : Int).toNat * 8 + 7, none⟩ = some (.int .i64 ((rd_T38 t466 (ji69)).f7)) := hcc72 7 _ rfl
                            have hf72_0 : w10.frozen? ⟨go72, ((ji69) : Int).toNat * 8, none⟩ = false := hfr72 0
                            have hf72_1 : w10.frozen? ⟨go72, ((ji69) : Int).toNat * 8 + 1, none⟩ = false := hfr72 1
                            have hf72_2 : w10.frozen? ⟨go72, ((ji69) : Int).toNat * 8 + 2, none⟩ = false := hfr72 2
                            have hf72_3 : w10.frozen? ⟨go72, ((ji69) : Int).toNat * 8 + 3, none⟩ = false := hfr72 3
                            have hf72_4 : w10.frozen? ⟨go72, ((ji69) : Int).toNat * 8 + 4, none⟩ = false := hfr72 4
                            have hf72_5 : w10.frozen? ⟨go72, ((ji69) : Int).toNat * 8 + 5, none⟩ = false := hfr72 5
                            have hf72_6 : w10.frozen? ⟨go72, ((ji69) : Int).toNat * 8 + 6, none⟩ = false := hfr72 6
                            have hf72_7 : w10.frozen? ⟨go72, ((ji69) : Int).toNat * 8 + 7, none⟩ = false := hfr72 7
                            clear hcl72 hcc72 hfr72 hM72
                            replace p72 := eq_true p72
                            replace q72 := eq_true q72
                            have HX73 := Aside0.mk (show Kd.S k38 38 w10 w.heap.size (fun k_ => ((fun _ => True)) k_ ∧ ¬ ((fun _ => False)) k_) (.slice (some ⟨go72, 0, none⟩) t466.length co72) t466 from (by (with_reducible repeat (first | apply Kd.S_alloc | apply Kd.S_drewN | apply Kd.S_drew)); exact Kd.S_mono HO468.out (fun k_ hk => ⟨trivial, fun e_ => e_⟩)))
                            obtain ⟨oki73, ce73, hcl73, hM73, hcc73, hfr73, hoki73, hH73⟩ := Kd.S_elem HX73.out z38 ((ji69) : Int) (of_decide_eq_true (by first | (with_reducible assumption) | assumption)) (by have h_ : ((ji69) : Int) < ((t466.length : Int) : Int) := of_decide_eq_true (by first | (with_reducible assumption) | assumption); first | exact h_ | (have e_ := (Kd.S_reads' HO468.out).1; omega) | simpa using h_)
                            obtain ⟨ve73_2, rfl, ge73_2⟩ := k38_openM hM73
                            have HP73 := Kd.S_seg hH73 (of_decide_eq_true (by first | (with_reducible assumption) | assumption)) (by have h_ : ((ji69) : Int) < ((t466.length : Int) : Int) := of_decide_eq_true (by first | (with_reducible assumption) | assumption); first | exact h_ | (have e_ := (Kd.S_reads' HO468.out).1; omega) | simpa using h_) (seg := [.int .i64 7]) (j := 7) (show 8 ≤ 8 from by decide) (x' := (⟨(rd_T38 t466 (ji69)).f0, (rd_T38 t466 (ji69)).f1, (rd_T38 t466 (ji69)).f2, (rd_T38 t466 (ji69)).f3, (rd_T38 t466 (ji69)).f4, (rd_T38 t466 (ji69)).f5, (rd_T38 t466 (ji69)).f6, 7⟩ : S38)) (k38_mkM _ _ _ (⟨(rd_T38 t466 (ji69)).f0, (rd_T38 t466 (ji69)).f1, (rd_T38 t466 (ji69)).f2, (rd_T38 t466 (ji69)).f3, (rd_T38 t466 (ji69)).f4, (rd_T38 t466 (ji69)).f5, (rd_T38 t466 (ji69)).f6, 7⟩ : S38) (Kd.R_mono ge73_2 (fun _ h_ => Or.inl h_))) (fun _ hk => hk) (fun k_ hk_ => hk_.elim)
                            have hx73_7 := hcc73 7 _ rfl
                            (try simp only [show (k38).sz = 8 from rfl, Nat.mul_one, Nat.add_zero] at hx73_7)
                            have hf73_7 := hfr73 7
                            (try simp only [show (k38).sz = 8 from rfl, Nat.mul_one, Nat.add_zero] at hf73_7)
                            clear hcl73 hcc73 hfr73 hM73 hoki73 hH73
                            go_wp2_with (first | ((with_reducible refine gate_store (t := 3) (p := 85) rfl ?_); refine store_event (t := 3) (p := 85) (v := ?vo_w74) (w1 := (w10.setCell ⟨go72, ((ji69) : Int).toNat * 8 + 7, none⟩ (.int .i64 7))) ?hg ?ho ?hn ?hr ?_; (case ho => rfl); (case hg => rfl); (case hn => rfl); (case hr => first | (go_simp; done) | (go_simp; rfl)); intro w74 hw; have hg : w10.grownBy w74 (some go72) := (by rw [hw]; exact HP73.2); have hp_ : Kd.S k38 38 w74 w.heap.size (fun _ => True) (.slice (some ⟨go72, 0, none⟩) t466.length co72) y488 := (by rw [hw, Ny488.out]; exact HP73.1); clear HP73; have n0_ := Aside0.mk (hp_); have n1_ := Aside0.mk ((by rw [hw]; exact below_set (HB.out) GB72.out : Below w.heap.size w w74)); clear HO468; clear HB; have HO468 := n0_; have HB := n1_; clear n0_ n1_; clear hg hw hp_))
                            subst hji69
                            go_meet
                            case rel => exact ⟨_, (y488), H', ⟨by first | omega | exact Nat.le_refl _⟩, ⟨by (with_reducible repeat (first | apply Kd.S_alloc | apply Kd.S_drewN | apply Kd.S_drew)); exact HO468.out⟩, ⟨by repeat (first | (with_reducible first | exact HB.out | apply below_alloc | apply pw_below_drewN | apply below_drew1) | exact HB.out)⟩⟩
                          · rw [if_neg c71] at H
                            exact absurd H (by simp)
                        · rw [if_neg c70] at H
                          exact absurd H (by simp)
                      · rw [if_neg c68] at H
                        have c68b0 : ((Int.tmod a2 14) == 7) = false := beq_eq_false_iff_ne.mpr c68
                        have c68b1 : ((Int.tmod a2 14) != 7) = true := bne_iff_ne.mpr c68
                        by_cases c75 : (Int.tmod a2 14) = 8
                        · rw [if_pos c75] at H
                          have c75b0 : ((Int.tmod a2 14) == 8) = true := beq_iff_eq.mpr c75
                          have c75b1 : ((Int.tmod a2 14) != 8) = false := bne_eq_false_iff_eq.mpr c75
                          clear c75
                          by_cases c76 : 0 < (t466.length : Int)
                          · rw [if_pos c76] at H
                            have c76b0 : decide (0 < (t466.length : Int)) = true := decide_eq_true c76
                            have c76b1 : decide (0 < t466.length) = true := decide_eq_true (by omega)
                            clear c76
                            obtain ⟨y489, hy489⟩ : ∃ y_ : List (S38), y_ = (t466.set (0 : Int).toNat (⟨(rd_T38 t466 0).f0, (rd_T38 t466 0).f1, (rd_T38 t466 0).f2, true, (rd_T38 t466 0).f4, (rd_T38 t466 0).f5, (rd_T38 t466 0).f6, (rd_T38 t466 0).f7⟩ : S38)) := ⟨_, rfl⟩
                            replace H : (if 0 ≤ (wrap64 (1 + (Int.tmod (wrap64 (a1)) (wrap64 ((wrap64 (2 + (wrap64 (Int.tmod a0 40)))) - 1))))) then (if (wrap64 (1 + (Int.tmod (wrap64 (a1)) (wrap64 ((wrap64 (2 + (wrap64 (Int.tmod a0 40)))) - 1))))) < (t466.length : Int) then (partitalaw10_TurnsErrors.j0 k true (y489.set ((wrap64 (1 + (Int.tmod (wrap64 (a1)) (wrap64 ((wrap64 (2 + (wrap64 (Int.tmod a0 40)))) - 1))))) : Int).toNat (⟨(rd_T38 y489 (wrap64 (1 + (Int.tmod (wrap64 (a1)) (wrap64 ((wrap64 (2 + (wrap64 (Int.tmod a0 40)))) - 1)))))).f0, (rd_T38 y489 (wrap64 (1 + (Int.tmod (wrap64 (a1)) (wrap64 ((wrap64 (2 + (wrap64 (Int.tmod a0 40)))) - 1)))))).f1, (rd_T38 y489 (wrap64 (1 + (Int.tmod (wrap64 (a1)) (wrap64 ((wrap64 (2 + (wrap64 (Int.tmod a0 40)))) - 1)))))).f2, true, (rd_T38 y489 (wrap64 (1 + (Int.tmod (wrap64 (a1)) (wrap64 ((wrap64 (2 + (wrap64 (Int.tmod a0 40)))) - 1)))))).f4, (rd_T38 y489 (wrap64 (1 + (Int.tmod (wrap64 (a1)) (wrap64 ((wrap64 (2 + (wrap64 (Int.tmod a0 40)))) - 1)))))).f5, (rd_T38 y489 (wrap64 (1 + (Int.tmod (wrap64 (a1)) (wrap64 ((wrap64 (2 + (wrap64 (Int.tmod a0 40)))) - 1)))))).f6, (rd_T38 y489 (wrap64 (1 + (Int.tmod (wrap64 (a1)) (wrap64 ((wrap64 (2 + (wrap64 (Int.tmod a0 40)))) - 1)))))).f7⟩ : S38)) (wrap64 (1 + (Int.tmod (wrap64 (a1)) (wrap64 ((wrap64 (2 + (wrap64 (Int.tmod a0 40)))) - 1)))))) else (none)) else (none)) = some r := by first | (rw [hy489]; with_reducible exact H) | (have H2_ := (Option.bind_some _ _).symm.trans H; rw [hy489]; with_reducible exact H2_) | (have H2_ := (Option.bind_some _ _).symm.trans H; with_reducible exact H2_) | with_reducible exact H | (rw [hy489]; exact H) | exact H
                            have Ny489 := Aside0.mk hy489
                            clear hy489
                            obtain ⟨ji78, hji78⟩ : ∃ j_ : Int, (wrap64 (1 + (Int.tmod (wrap64 (a1)) (wrap64 ((wrap64 (2 + (wrap64 (Int.tmod a0 40)))) - 1))))) = j_ := ⟨_, rfl⟩
                            replace H : (if 0 ≤ (ji78) then (if (ji78) < (t466.length : Int) then (partitalaw10_TurnsErrors.j0 k true (y489.set ((ji78) : Int).toNat (⟨(rd_T38 y489 (ji78)).f0, (rd_T38 y489 (ji78)).f1, (rd_T38 y489 (ji78)).f2, true, (rd_T38 y489 (ji78)).f4, (rd_T38 y489 (ji78)).f5, (rd_T38 y489 (ji78)).f6, (rd_T38 y489 (ji78)).f7⟩ : S38)) ji78) else (none)) else (none)) = some r := by first | (rw [hji78] at H; exact H) | (simp only [hji78] at H ⊢; exact H)
                            have hji78w : (IntKind.i64.wrap (1 + (Int.tmod (wrap64 (a1)) (wrap64 ((wrap64 (2 + (wrap64 (Int.tmod a0 40)))) - 1))))) = ji78 := (i64_w _).trans hji78
                            by_cases c79 : 0 ≤ (ji78)
                            · rw [if_pos c79] at H
                              have c79b0 : decide (0 ≤ (ji78)) = true := decide_eq_true c79
                              clear c79
                              by_cases c80 : (ji78) < (t466.length : Int)
                              · rw [if_pos c80] at H
                                have c80b0 : decide ((ji78) < (t466.length : Int)) = true := decide_eq_true c80
                                clear c80
                                obtain ⟨y490, hy490⟩ : ∃ y_ : List (S38), y_ = (y489.set ((ji78) : Int).toNat (⟨(rd_T38 y489 (ji78)).f0, (rd_T38 y489 (ji78)).f1, (rd_T38 y489 (ji78)).f2, true, (rd_T38 y489 (ji78)).f4, (rd_T38 y489 (ji78)).f5, (rd_T38 y489 (ji78)).f6, (rd_T38 y489 (ji78)).f7⟩ : S38)) := ⟨_, rfl⟩
                                replace H : (partitalaw10_TurnsErrors.j0 k true y490 ji78) = some r := by first | (rw [hy490]; with_reducible exact H) | (have H2_ := (Option.bind_some _ _).symm.trans H; rw [hy490]; with_reducible exact H2_) | (have H2_ := (Option.bind_some _ _).symm.trans H; with_reducible exact H2_) | with_reducible exact H | (rw [hy490]; exact H) | exact H
                                have Ny490 := Aside0.mk hy490
                                clear hy490
                                have H' := Aside0.mk H
                                clear H
                                have p77 : 0 ≤ (0 : Int) := (by omega)
                                have q77 : (0 : Int) < ((t466.length : Int) : Int) := of_decide_eq_true (by first | (with_reducible assumption) | assumption)
                                have qi77 : (0 < t466.length) = True := eq_true (by omega)
                                obtain ⟨go77, co77, eo77, gb77, gl77, cl77, HG77⟩ := Kd.S_form HO468.out (by omega)
                                (first | cases eo77 | (injection eo77 with ea_ en_ ec_; (first | subst ea_ | (injection ea_ with ea_; subst ea_)); subst ec_; clear en_))
                                have GB77 := Aside0.mk gb77
                                have GG77 := Aside0.mk HG77
                                clear gb77 gl77 HG77
                                obtain ⟨_, ce77, hcl77, hM77, hcc77, hfr77, _, _⟩ := Kd.S_elem HO468.out z38 (0 : Int) p77 q77
                                obtain ⟨ve77_2, rfl, ge77_2⟩ := k38_openM hM77
                                have hx77_0 : w10.cell? ⟨go77, (0 : Int).toNat * 8, none⟩ = some (.bool ((rd_T38 t466 0).f0)) := hcc77 0 _ rfl
                                have hx77_1 : w10.cell? ⟨go77, (0 : Int).toNat * 8 + 1, none⟩ = some (.int .i64 ((rd_T38 t466 0).f1)) := hcc77 1 _ rfl
                                have hx77_2 : w10.cell? ⟨go77, (0 : Int).toNat * 8 + 2, none⟩ = some (ve77_2) := hcc77 2 _ rfl
                                have hx77_3 : w10.cell? ⟨go77, (0 : Int).toNat * 8 + 3, none⟩ = some (.bool ((rd_T38 t466 0).f3)) := hcc77 3 _ rfl
                                have hx77_4 : w10.cell? ⟨go77, (0 : Int).toNat * 8 + 4, none⟩ = some (.bool ((rd_T38 t466 0).f4)) := hcc77 4 _ rfl
                                have hx77_5 : w10.cell? ⟨go77, (0 : Int).toNat * 8 + 5, none⟩ = some (.bool ((rd_T38 t466 0).f5)) := hcc77 5 _ rfl
                                have hx77_6 : w10.cell? ⟨go77, (0 : Int).toNat * 8 + 6, none⟩ = some (.bool ((rd_T38 t466 0).f6)) := hcc77 6 _ rfl
                                have hx77_7 : w10.cell? ⟨go77, (0 : Int).toNat * 8 + 7, none⟩ = some (.int .i64 ((rd_T38 t466 0).f7)) := hcc77 7 _ rfl
                                have hf77_0 : w10.frozen? ⟨go77, (0 : Int).toNat * 8, none⟩ = false := hfr77 0
                                have hf77_1 : w10.frozen? ⟨go77, (0 : Int).toNat * 8 + 1, none⟩ = false := hfr77 1
                                have hf77_2 : w10.frozen? ⟨go77, (0 : Int).toNat * 8 + 2, none⟩ = false := hfr77 2
                                have hf77_3 : w10.frozen? ⟨go77, (0 : Int).toNat * 8 + 3, none⟩ = false := hfr77 3
                                have hf77_4 : w10.frozen? ⟨go77, (0 : Int).toNat * 8 + 4, none⟩ = false := hfr77 4
                                have hf77_5 : w10.frozen? ⟨go77, (0 : Int).toNat * 8 + 5, none⟩ = false := hfr77 5
                                have hf77_6 : w10.frozen? ⟨go77, (0 : Int).toNat * 8 + 6, none⟩ = false := hfr77 6
                                have hf77_7 : w10.frozen? ⟨go77, (0 : Int).toNat * 8 + 7, none⟩ = false := hfr77 7
                                clear hcl77 hcc77 hfr77 hM77
                                (try rw [show ((0 : Int)).toNat = 0 from rfl] at hx77_0)
                                (try simp only [Nat.reduceMul, Nat.zero_mul, Nat.zero_add, Nat.reduceAdd] at hx77_0)
                                (try rw [show ((0 : Int)).toNat = 0 from rfl] at hf77_0)
                                (try simp only [Nat.reduceMul, Nat.zero_mul, Nat.zero_add, Nat.reduceAdd] at hf77_0)
                                (try rw [show ((0 : Int)).toNat = 0 from rfl] at hx77_1)
                                (try simp only [Nat.reduceMul, Nat.zero_mul, Nat.zero_add, Nat.reduceAdd] at hx77_1)
                                (try rw [show ((0 : Int)).toNat = 0 from rfl] at hf77_1)
                                (try simp only [Nat.reduceMul, Nat.zero_mul, Nat.zero_add, Nat.reduceAdd] at hf77_1)
                                (try rw [show ((0 : Int)).toNat = 0 from rfl] at hx77_2)
                                (try simp only [Nat.reduceMul, Nat.zero_mul, Nat.zero_add, Nat.reduceAdd] at hx77_2)
                                (try rw [show ((0 : Int)).toNat = 0 from rfl] at hf77_2)
                                (try simp only [Nat.reduceMul, Nat.zero_mul, Nat.zero_add, Nat.reduceAdd] at hf77_2)
                                (try rw [show ((0 : Int)).toNat = 0 from rfl] at hx77_3)
                                (try simp only [Nat.reduceMul, Nat.zero_mul, Nat.zero_add, Nat.reduceAdd] at hx77_3)
                                (try rw [show ((0 : Int)).toNat = 0 from rfl] at hf77_3)
                                (try simp only [Nat.reduceMul, Nat.zero_mul, Nat.zero_add, Nat.reduceAdd] at hf77_3)
                                (try rw [show ((0 : Int)).toNat = 0 from rfl] at hx77_4)
                                (try simp only [Nat.reduceMul, Nat.zero_mul, Nat.zero_add, Nat.reduceAdd] at hx77_4)
                                (try rw [show ((0 : Int)).toNat = 0 from rfl] at hf77_4)
                                (try simp only [Nat.reduceMul, Nat.zero_mul, Nat.zero_add, Nat.reduceAdd] at hf77_4)
                                (try rw [show ((0 : Int)).toNat = 0 from rfl] at hx77_5)
                                (try simp only [Nat.reduceMul, Nat.zero_mul, Nat.zero_add, Nat.reduceAdd] at hx77_5)
                                (try rw [show ((0 : Int)).toNat = 0 from rfl] at hf77_5)
                                (try simp only [Nat.reduceMul, Nat.zero_mul, Nat.zero_add, Nat.reduceAdd] at hf77_5)
                                (try rw [show ((0 : Int)).toNat = 0 from rfl] at hx77_6)
                                (try simp only [Nat.reduceMul, Nat.zero_mul, Nat.zero_add, Nat.reduceAdd] at hx77_6)
                                (try rw [show ((0 : Int)).toNat = 0 from rfl] at hf77_6)
                                (try simp only [Nat.reduceMul, Nat.zero_mul, Nat.zero_add, Nat.reduceAdd] at hf77_6)
                                (try rw [show ((0 : Int)).toNat = 0 from rfl] at hx77_7)
                                (try simp only [Nat.reduceMul, Nat.zero_mul, Nat.zero_add, Nat.reduceAdd] at hx77_7)
                                (try rw [show ((0 : Int)).toNat = 0 from rfl] at hf77_7)
                                (try simp only [Nat.reduceMul, Nat.zero_mul, Nat.zero_add, Nat.reduceAdd] at hf77_7)
                                replace p77 := eq_true p77
                                replace q77 := eq_true q77
                                have HX82 := Aside0.mk (show Kd.S k38 38 w10 w.heap.size (fun k_ => ((fun _ => True)) k_ ∧ ¬ ((fun _ => False)) k_) (.slice (some ⟨go77, 0, none⟩) t466.length co77) t466 from (by (with_reducible repeat (first | apply Kd.S_alloc | apply Kd.S_drewN | apply Kd.S_drew)); exact Kd.S_mono HO468.out (fun k_ hk => ⟨trivial, fun e_ => e_⟩)))
                                obtain ⟨oki82, ce82, hcl82, hM82, hcc82, hfr82, hoki82, hH82⟩ := Kd.S_elem HX82.out z38 (0 : Int) (by omega) (by have h_ : (0 : Int) < ((t466.length : Int) : Int) := of_decide_eq_true (by first | (with_reducible assumption) | assumption); first | exact h_ | (have e_ := (Kd.S_reads' HO468.out).1; omega) | simpa using h_)
                                obtain ⟨ve82_2, rfl, ge82_2⟩ := k38_openM hM82
                                have HP82 := Kd.S_seg hH82 (by omega) (by have h_ : (0 : Int) < ((t466.length : Int) : Int) := of_decide_eq_true (by first | (with_reducible assumption) | assumption); first | exact h_ | (have e_ := (Kd.S_reads' HO468.out).1; omega) | simpa using h_) (seg := [.bool true]) (j := 3) (show 4 ≤ 8 from by decide) (x' := (⟨(rd_T38 t466 0).f0, (rd_T38 t466 0).f1, (rd_T38 t466 0).f2, true, (rd_T38 t466 0).f4, (rd_T38 t466 0).f5, (rd_T38 t466 0).f6, (rd_T38 t466 0).f7⟩ : S38)) (k38_mkM _ _ _ (⟨(rd_T38 t466 0).f0, (rd_T38 t466 0).f1, (rd_T38 t466 0).f2, true, (rd_T38 t466 0).f4, (rd_T38 t466 0).f5, (rd_T38 t466 0).f6, (rd_T38 t466 0).f7⟩ : S38) (Kd.R_mono ge82_2 (fun _ h_ => Or.inl h_))) (fun _ hk => hk) (fun k_ hk_ => hk_.elim)
                                have hx82_3 := hcc82 3 _ rfl
                                (try simp only [show (k38).sz = 8 from rfl, Nat.mul_one, Nat.add_zero] at hx82_3)
                                (try rw [show ((0 : Int)).toNat = 0 from rfl] at hx82_3)
                                (try simp only [Nat.reduceMul, Nat.zero_mul, Nat.zero_add, Nat.reduceAdd] at hx82_3)
                                have hf82_3 := hfr82 3
                                (try simp only [show (k38).sz = 8 from rfl, Nat.mul_one, Nat.add_zero] at hf82_3)
                                (try rw [show ((0 : Int)).toNat = 0 from rfl] at hf82_3)
                                (try simp only [Nat.reduceMul, Nat.zero_mul, Nat.zero_add, Nat.reduceAdd] at hf82_3)
                                clear hcl82 hcc82 hfr82 hM82 hoki82 hH82
                                go_wp2_with (first | ((with_reducible refine gate_store (t := 4) (p := 90) rfl ?_); refine store_event (t := 4) (p := 90) (v := ?vo_w83) (w1 := (w10.setCell ⟨go77, 3, none⟩ (.bool true))) ?hg ?ho ?hn ?hr ?_; (case ho => rfl); (case hg => rfl); (case hn => rfl); (case hr => first | (go_simp; done) | (go_simp; rfl)); intro w83 hw; have hg : w10.grownBy w83 (some go77) := (by rw [hw]; exact HP82.2); have hp_ : Kd.S k38 38 w83 w.heap.size (fun _ => True) (.slice (some ⟨go77, 0, none⟩) t466.length co77) y489 := (by rw [hw, Ny489.out]; exact HP82.1); clear HP82; have n0_ := Aside0.mk (hp_); have n1_ := Aside0.mk ((by rw [hw]; exact below_set (HB.out) GB77.out : Below w.heap.size w w83)); clear HO468; clear HB; have HO468 := n0_; have HB := n1_; clear n0_ n1_; clear hg hw hp_; have p81 : 0 ≤ ((ji78) : Int) := of_decide_eq_true (by first | (with_reducible assumption) | assumption); have q81 : ((ji78) : Int) < ((t466.length : Int) : Int) := of_decide_eq_true (by first | (with_reducible assumption) | assumption); obtain ⟨_, ce81, hcl81, hM81, hcc81, hfr81, _, _⟩ := Kd.S_elem HO468.out z38 ((ji78) : Int) p81 q81; obtain ⟨ve81_2, rfl, ge81_2⟩ := k38_openM hM81; have hx81_0 : w83.cell? ⟨go77, ((ji78) : Int).toNat * 8, none⟩ = some (.bool ((rd_T38 y489 (ji78)).f0)) := hcc81 0 _ rfl; have hx81_1 : w83.cell? ⟨go77, ((ji78) : Int).toNat * 8 + 1, none⟩ = some (.int .i64 ((rd_T38 y489 (ji78)).f1)) := hcc81 1 _ rfl; have hx81_2 : w83.cell? ⟨go77, ((ji78) : Int).toNat * 8 + 2, none⟩ = some (ve81_2) := hcc81 2 _ rfl; have hx81_3 : w83.cell? ⟨go77, ((ji78) : Int).toNat * 8 + 3, none⟩ = some (.bool ((rd_T38 y489 (ji78)).f3)) := hcc81 3 _ rfl; have hx81_4 : w83.cell? ⟨go77, ((ji78) : Int).toNat * 8 + 4, none⟩ = some (.bool ((rd_T38 y489 (ji78)).f4)) := hcc81 4 _ rfl; have hx81_5 : w83.cell? ⟨go77, ((ji78) : Int).toNat * 8 + 5, none⟩ = some (.bool ((rd_T38 y489 (ji78)).f5)) := hcc81 5 _ rfl; have hx81_6 : w83.cell? ⟨go77, ((ji78) : Int).toNat * 8 + 6, none⟩ = some (.bool ((rd_T38 y489 (ji78)).f6)) := hcc81 6 _ rfl; have hx81_7 : w83.cell? ⟨go77, ((ji78) : Int).toNat * 8 + 7, none⟩ = some (.int .i64 ((rd_T38 y489 (ji78)).f7)) := hcc81 7 _ rfl; have hf81_0 : w83.frozen? ⟨go77, ((ji78) : Int).toNat * 8, none⟩ = false := hfr81 0; have hf81_1 : w83.frozen? ⟨go77, ((ji78) : Int).toNat * 8 + 1, none⟩ = false := hfr81 1; have hf81_2 : w83.frozen? ⟨go77, ((ji78) : Int).toNat * 8 + 2, none⟩ = false := hfr81 2; have hf81_3 : w83.frozen? ⟨go77, ((ji78) : Int).toNat * 8 + 3, none⟩ = false := hfr81 3; have hf81_4 : w83.frozen? ⟨go77, ((ji78) : Int).toNat * 8 + 4, none⟩ = false := hfr81 4; have hf81_5 : w83.frozen? ⟨go77, ((ji78) : Int).toNat * 8 + 5, none⟩ = false := hfr81 5; have hf81_6 : w83.frozen? ⟨go77, ((ji78) : Int).toNat * 8 + 6, none⟩ = false := hfr81 6; have hf81_7 : w83.frozen? ⟨go77, ((ji78) : Int).toNat * 8 + 7, none⟩ = false := hfr81 7; clear hcl81 hcc81 hfr81 hM81; replace p81 := eq_true p81; replace q81 := eq_true q81; have HX84 := Aside0.mk (show Kd.S k38 38 w83 w.heap.size (fun k_ => ((fun _ => True)) k_ ∧ ¬ ((fun _ => False)) k_) (.slice (some ⟨go77, 0, none⟩) t466.length co77) y489 from (by (with_reducible repeat (first | apply Kd.S_alloc | apply Kd.S_drewN | apply Kd.S_drew)); exact Kd.S_mono HO468.out (fun k_ hk => ⟨trivial, fun e_ => e_⟩))); obtain ⟨oki84, ce84, hcl84, hM84, hcc84, hfr84, hoki84, hH84⟩ := Kd.S_elem HX84.out z38 ((ji78) : Int) (of_decide_eq_true (by first | (with_reducible assumption) | assumption)) (by have h_ : ((ji78) : Int) < ((t466.length : Int) : Int) := of_decide_eq_true (by first | (with_reducible assumption) | assumption); first | exact h_ | (have e_ := (Kd.S_reads' HO468.out).1; omega) | simpa using h_); obtain ⟨ve84_2, rfl, ge84_2⟩ := k38_openM hM84; have HP84 := Kd.S_seg hH84 (of_decide_eq_true (by first | (with_reducible assumption) | assumption)) (by have h_ : ((ji78) : Int) < ((t466.length : Int) : Int) := of_decide_eq_true (by first | (with_reducible assumption) | assumption); first | exact h_ | (have e_ := (Kd.S_reads' HO468.out).1; omega) | simpa using h_) (seg := [.bool true]) (j := 3) (show 4 ≤ 8 from by decide) (x' := (⟨(rd_T38 y489 (ji78)).f0, (rd_T38 y489 (ji78)).f1, (rd_T38 y489 (ji78)).f2, true, (rd_T38 y489 (ji78)).f4, (rd_T38 y489 (ji78)).f5, (rd_T38 y489 (ji78)).f6, (rd_T38 y489 (ji78)).f7⟩ : S38)) (k38_mkM _ _ _ (⟨(rd_T38 y489 (ji78)).f0, (rd_T38 y489 (ji78)).f1, (rd_T38 y489 (ji78)).f2, true, (rd_T38 y489 (ji78)).f4, (rd_T38 y489 (ji78)).f5, (rd_T38 y489 (ji78)).f6, (rd_T38 y489 (ji78)).f7⟩ : S38) (Kd.R_mono ge84_2 (fun _ h_ => Or.inl h_))) (fun _ hk => hk) (fun k_ hk_ => hk_.elim); have hx84_3 := hcc84 3 _ rfl; (try simp only [show (k38).sz = 8 from rfl, Nat.mul_one, Nat.add_zero] at hx84_3); have hf84_3 := hfr84 3; (try simp only [show (k38).sz = 8 from rfl, Nat.mul_one, Nat.add_zero] at hf84_3); clear hcl84 hcc84 hfr84 hM84 hoki84 hH84) | ((with_reducible refine gate_store (t := 4) (p := 94) rfl ?_); refine store_event (t := 4) (p := 94) (v := ?vo_w85) (w1 := (w83.setCell ⟨go77, ((ji78) : Int).toNat * 8 + 3, none⟩ (.bool true))) ?hg ?ho ?hn ?hr ?_; (case ho => rfl); (case hg => rfl); (case hn => rfl); (case hr => first | (go_simp; done) | (go_simp; rfl)); intro w85 hw; have hg : w83.grownBy w85 (some go77) := (by rw [hw]; exact HP84.2); have hp_ : Kd.S k38 38 w85 w.heap.size (fun _ => True) (.slice (some ⟨go77, 0, none⟩) t466.length co77) y490 := (by rw [hw, Ny490.out]; exact HP84.1); clear HP84; have n0_ := Aside0.mk (hp_); have n1_ := Aside0.mk ((by rw [hw]; exact below_set (HB.out) GB77.out : Below w.heap.size w w85)); clear HO468; clear HB; have HO468 := n0_; have HB := n1_; clear n0_ n1_; clear hg hw hp_))
                                subst hji78
                                go_meet
                                case rel => exact ⟨_, (y490), H', ⟨by first | omega | exact Nat.le_refl _⟩, ⟨by (with_reducible repeat (first | apply Kd.S_alloc | apply Kd.S_drewN | apply Kd.S_drew)); exact HO468.out⟩, ⟨by repeat (first | (with_reducible first | exact HB.out | apply below_alloc | apply pw_below_drewN | apply below_drew1) | exact HB.out)⟩⟩
                              · rw [if_neg c80] at H
                                exact absurd H (by simp)
                            · rw [if_neg c79] at H
                              exact absurd H (by simp)
                          · rw [if_neg c76] at H
                            exact absurd H (by simp)
                        · rw [if_neg c75] at H
                          have c75b0 : ((Int.tmod a2 14) == 8) = false := beq_eq_false_iff_ne.mpr c75
                          have c75b1 : ((Int.tmod a2 14) != 8) = true := bne_iff_ne.mpr c75
                          by_cases c86 : (Int.tmod a2 14) = 9
                          · rw [if_pos c86] at H
                            have c86b0 : ((Int.tmod a2 14) == 9) = true := beq_iff_eq.mpr c86
                            have c86b1 : ((Int.tmod a2 14) != 9) = false := bne_eq_false_iff_eq.mpr c86
                            clear c86
                            by_cases c87 : 0 < (t466.length : Int)
                            · rw [if_pos c87] at H
                              have c87b0 : decide (0 < (t466.length : Int)) = true := decide_eq_true c87
                              have c87b1 : decide (0 < t466.length) = true := decide_eq_true (by omega)
                              clear c87
                              obtain ⟨y491, hy491⟩ : ∃ y_ : List (S38), y_ = (t466.set (0 : Int).toNat (⟨(rd_T38 t466 0).f0, (rd_T38 t466 0).f1, (rd_T38 t466 0).f2, (rd_T38 t466 0).f3, true, (rd_T38 t466 0).f5, (rd_T38 t466 0).f6, (rd_T38 t466 0).f7⟩ : S38)) := ⟨_, rfl⟩
                              replace H : (if 0 ≤ (wrap64 (1 + (Int.tmod (wrap64 (a1)) (wrap64 ((wrap64 (2 + (wrap64 (Int.tmod a0 40)))) - 1))))) then (if (wrap64 (1 + (Int.tmod (wrap64 (a1)) (wrap64 ((wrap64 (2 + (wrap64 (Int.tmod a0 40)))) - 1))))) < (t466.length : Int) then (partitalaw10_TurnsErrors.j0 k true (y491.set ((wrap64 (1 + (Int.tmod (wrap64 (a1)) (wrap64 ((wrap64 (2 + (wrap64 (Int.tmod a0 40)))) - 1))))) : Int).toNat (⟨(rd_T38 y491 (wrap64 (1 + (Int.tmod (wrap64 (a1)) (wrap64 ((wrap64 (2 + (wrap64 (Int.tmod a0 40)))) - 1)))))).f0, (rd_T38 y491 (wrap64 (1 + (Int.tmod (wrap64 (a1)) (wrap64 ((wrap64 (2 + (wrap64 (Int.tmod a0 40)))) - 1)))))).f1, (rd_T38 y491 (wrap64 (1 + (Int.tmod (wrap64 (a1)) (wrap64 ((wrap64 (2 + (wrap64 (Int.tmod a0 40)))) - 1)))))).f2, (rd_T38 y491 (wrap64 (1 + (Int.tmod (wrap64 (a1)) (wrap64 ((wrap64 (2 + (wrap64 (Int.tmod a0 40)))) - 1)))))).f3, true, (rd_T38 y491 (wrap64 (1 + (Int.tmod (wrap64 (a1)) (wrap64 ((wrap64 (2 + (wrap64 (Int.tmod a0 40)))) - 1)))))).f5, (rd_T38 y491 (wrap64 (1 + (Int.tmod (wrap64 (a1)) (wrap64 ((wrap64 (2 + (wrap64 (Int.tmod a0 40)))) - 1)))))).f6, (rd_T38 y491 (wrap64 (1 + (Int.tmod (wrap64 (a1)) (wrap64 ((wrap64 (2 + (wrap64 (Int.tmod a0 40)))) - 1)))))).f7⟩ : S38)) (wrap64 (1 + (Int.tmod (wrap64 (a1)) (wrap64 ((wrap64 (2 + (wrap64 (Int.tmod a0 40)))) - 1)))))) else (none)) else (none)) = some r := by first | (rw [hy491]; with_reducible exact H) | (have H2_ := (Option.bind_some _ _).symm.trans H; rw [hy491]; with_reducible exact H2_) | (have H2_ := (Option.bind_some _ _).symm.trans H; with_reducible exact H2_) | with_reducible exact H | (rw [hy491]; exact H) | exact H
                              have Ny491 := Aside0.mk hy491
                              clear hy491
                              obtain ⟨ji89, hji89⟩ : ∃ j_ : Int, (wrap64 (1 + (Int.tmod (wrap64 (a1)) (wrap64 ((wrap64 (2 + (wrap64 (Int.tmod a0 40)))) - 1))))) = j_ := ⟨_, rfl⟩
                              replace H : (if 0 ≤ (ji89) then (if (ji89) < (t466.length : Int) then (partitalaw10_TurnsErrors.j0 k true (y491.set ((ji89) : Int).toNat (⟨(rd_T38 y491 (ji89)).f0, (rd_T38 y491 (ji89)).f1, (rd_T38 y491 (ji89)).f2, (rd_T38 y491 (ji89)).f3, true, (rd_T38 y491 (ji89)).f5, (rd_T38 y491 (ji89)).f6, (rd_T38 y491 (ji89)).f7⟩ : S38)) ji89) else (none)) else (none)) = some r := by first | (rw [hji89] at H; exact H) | (simp only [hji89] at H ⊢; exact H)
                              have hji89w : (IntKind.i64.wrap (1 + (Int.tmod (wrap64 (a1)) (wrap64 ((wrap64 (2 + (wrap64 (Int.tmod a0 40)))) - 1))))) = ji89 := (i64_w _).trans hji89
                              by_cases c90 : 0 ≤ (ji89)
                              · rw [if_pos c90] at H
                                have c90b0 : decide (0 ≤ (ji89)) = true := decide_eq_true c90
                                clear c90
                                by_cases c91 : (ji89) < (t466.length : Int)
                                · rw [if_pos c91] at H
                                  have c91b0 : decide ((ji89) < (t466.length : Int)) = true := decide_eq_true c91
                                  clear c91
                                  obtain ⟨y492, hy492⟩ : ∃ y_ : List (S38), y_ = (y491.set ((ji89) : Int).toNat (⟨(rd_T38 y491 (ji89)).f0, (rd_T38 y491 (ji89)).f1, (rd_T38 y491 (ji89)).f2, (rd_T38 y491 (ji89)).f3, true, (rd_T38 y491 (ji89)).f5, (rd_T38 y491 (ji89)).f6, (rd_T38 y491 (ji89)).f7⟩ : S38)) := ⟨_, rfl⟩
                                  replace H : (partitalaw10_TurnsErrors.j0 k true y492 ji89) = some r := by first | (rw [hy492]; with_reducible exact H) | (have H2_ := (Option.bind_some _ _).symm.trans H; rw [hy492]; with_reducible exact H2_) | (have H2_ := (Option.bind_some _ _).symm.trans H; with_reducible exact H2_) | with_reducible exact H | (rw [hy492]; exact H) | exact H
                                  have Ny492 := Aside0.mk hy492
                                  clear hy492
                                  have H' := Aside0.mk H
                                  clear H
                                  have p88 : 0 ≤ (0 : Int) := (by omega)
                                  have q88 : (0 : Int) < ((t466.length : Int) : Int) := of_decide_eq_true (by first | (with_reducible assumption) | assumption)
                                  have qi88 : (0 < t466.length) = True := eq_true (by omega)
                                  obtain ⟨go88, co88, eo88, gb88, gl88, cl88, HG88⟩ := Kd.S_form HO468.out (by omega)
                                  (first | cases eo88 | (injection eo88 with ea_ en_ ec_; (first | subst ea_ | (injection ea_ with ea_; subst ea_)); subst ec_; clear en_))
                                  have GB88 := Aside0.mk gb88
                                  have GG88 := Aside0.mk HG88
                                  clear gb88 gl88 HG88
                                  obtain ⟨_, ce88, hcl88, hM88, hcc88, hfr88, _, _⟩ := Kd.S_elem HO468.out z38 (0 : Int) p88 q88
                                  obtain ⟨ve88_2, rfl, ge88_2⟩ := k38_openM hM88
                                  have hx88_0 : w10.cell? ⟨go88, (0 : Int).toNat * 8, none⟩ = some (.bool ((rd_T38 t466 0).f0)) := hcc88 0 _ rfl
                                  have hx88_1 : w10.cell? ⟨go88, (0 : Int).toNat * 8 + 1, none⟩ = some (.int .i64 ((rd_T38 t466 0).f1)) := hcc88 1 _ rfl
                                  have hx88_2 : w10.cell? ⟨go88, (0 : Int).toNat * 8 + 2, none⟩ = some (ve88_2) := hcc88 2 _ rfl
                                  have hx88_3 : w10.cell? ⟨go88, (0 : Int).toNat * 8 + 3, none⟩ = some (.bool ((rd_T38 t466 0).f3)) := hcc88 3 _ rfl
                                  have hx88_4 : w10.cell? ⟨go88, (0 : Int).toNat * 8 + 4, none⟩ = some (.bool ((rd_T38 t466 0).f4)) := hcc88 4 _ rfl
                                  have hx88_5 : w10.cell? ⟨go88, (0 : Int).toNat * 8 + 5, none⟩ = some (.bool ((rd_T38 t466 0).f5)) := hcc88 5 _ rfl
                                  have hx88_6 : w10.cell? ⟨go88, (0 : Int).toNat * 8 + 6, none⟩ = some (.bool ((rd_T38 t466 0).f6)) := hcc88 6 _ rfl
                                  have hx88_7 : w10.cell? ⟨go88, (0 : Int).toNat * 8 + 7, none⟩ = some (.int .i64 ((rd_T38 t466 0).f7)) := hcc88 7 _ rfl
                                  have hf88_0 : w10.frozen? ⟨go88, (0 : Int).toNat * 8, none⟩ = false := hfr88 0
                                  have hf88_1 : w10.frozen? ⟨go88, (0 : Int).toNat * 8 + 1, none⟩ = false := hfr88 1
                                  have hf88_2 : w10.frozen? ⟨go88, (0 : Int).toNat * 8 + 2, none⟩ = false := hfr88 2
                                  have hf88_3 : w10.frozen? ⟨go88, (0 : Int).toNat * 8 + 3, none⟩ = false := hfr88 3
                                  have hf88_4 : w10.frozen? ⟨go88, (0 : Int).toNat * 8 + 4, none⟩ = false := hfr88 4
                                  have hf88_5 : w10.frozen? ⟨go88, (0 : Int).toNat * 8 + 5, none⟩ = false := hfr88 5
                                  have hf88_6 : w10.frozen? ⟨go88, (0 : Int).toNat * 8 + 6, none⟩ = false := hfr88 6
                                  have hf88_7 : w10.frozen? ⟨go88, (0 : Int).toNat * 8 + 7, none⟩ = false := hfr88 7
                                  clear hcl88 hcc88 hfr88 hM88
                                  (try rw [show ((0 : Int)).toNat = 0 from rfl] at hx88_0)
                                  (try simp only [Nat.reduceMul, Nat.zero_mul, Nat.zero_add, Nat.reduceAdd] at hx88_0)
                                  (try rw [show ((0 : Int)).toNat = 0 from rfl] at hf88_0)
                                  (try simp only [Nat.reduceMul, Nat.zero_mul, Nat.zero_add, Nat.reduceAdd] at hf88_0)
                                  (try rw [show ((0 : Int)).toNat = 0 from rfl] at hx88_1)
                                  (try simp only [Nat.reduceMul, Nat.zero_mul, Nat.zero_add, Nat.reduceAdd] at hx88_1)
                                  (try rw [show ((0 : Int)).toNat = 0 from rfl] at hf88_1)
                                  (try simp only [Nat.reduceMul, Nat.zero_mul, Nat.zero_add, Nat.reduceAdd] at hf88_1)
                                  (try rw [show ((0 : Int)).toNat = 0 from rfl] at hx88_2)
                                  (try simp only [Nat.reduceMul, Nat.zero_mul, Nat.zero_add, Nat.reduceAdd] at hx88_2)
                                  (try rw [show ((0 : Int)).toNat = 0 from rfl] at hf88_2)
                                  (try simp only [Nat.reduceMul, Nat.zero_mul, Nat.zero_add, Nat.reduceAdd] at hf88_2)
                                  (try rw [show ((0 : Int)).toNat = 0 from rfl] at hx88_3)
                                  (try simp only [Nat.reduceMul, Nat.zero_mul, Nat.zero_add, Nat.reduceAdd] at hx88_3)
                                  (try rw [show ((0 : Int)).toNat = 0 from rfl] at hf88_3)
                                  (try simp only [Nat.reduceMul, Nat.zero_mul, Nat.zero_add, Nat.reduceAdd] at hf88_3)
                                  (try rw [show ((0 : Int)).toNat = 0 from rfl] at hx88_4)
                                  (try simp only [Nat.reduceMul, Nat.zero_mul, Nat.zero_add, Nat.reduceAdd] at hx88_4)
                                  (try rw [show ((0 : Int)).toNat = 0 from rfl] at hf88_4)
                                  (try simp only [Nat.reduceMul, Nat.zero_mul, Nat.zero_add, Nat.reduceAdd] at hf88_4)
                                  (try rw [show ((0 : Int)).toNat = 0 from rfl] at hx88_5)
                                  (try simp only [Nat.reduceMul, Nat.zero_mul, Nat.zero_add, Nat.reduceAdd] at hx88_5)
                                  (try rw [show ((0 : Int)).toNat = 0 from rfl] at hf88_5)
                                  (try simp only [Nat.reduceMul, Nat.zero_mul, Nat.zero_add, Nat.reduceAdd] at hf88_5)
                                  (try rw [show ((0 : Int)).toNat = 0 from rfl] at hx88_6)
                                  (try simp only [Nat.reduceMul, Nat.zero_mul, Nat.zero_add, Nat.reduceAdd] at hx88_6)
                                  (try rw [show ((0 : Int)).toNat = 0 from rfl] at hf88_6)
                                  (try simp only [Nat.reduceMul, Nat.zero_mul, Nat.zero_add, Nat.reduceAdd] at hf88_6)
                                  (try rw [show ((0 : Int)).toNat = 0 from rfl] at hx88_7)
                                  (try simp only [Nat.reduceMul, Nat.zero_mul, Nat.zero_add, Nat.reduceAdd] at hx88_7)
                                  (try rw [show ((0 : Int)).toNat = 0 from rfl] at hf88_7)
                                  (try simp only [Nat.reduceMul, Nat.zero_mul, Nat.zero_add, Nat.reduceAdd] at hf88_7)
                                  replace p88 := eq_true p88
                                  replace q88 := eq_true q88
                                  have HX93 := Aside0.mk (show Kd.S k38 38 w10 w.heap.size (fun k_ => ((fun _ => True)) k_ ∧ ¬ ((fun _ => False)) k_) (.slice (some ⟨go88, 0, none⟩) t466.length co88) t466 from (by (with_reducible repeat (first | apply Kd.S_alloc | apply Kd.S_drewN | apply Kd.S_drew)); exact Kd.S_mono HO468.out (fun k_ hk => ⟨trivial, fun e_ => e_⟩)))
                                  obtain ⟨oki93, ce93, hcl93, hM93, hcc93, hfr93, hoki93, hH93⟩ := Kd.S_elem HX93.out z38 (0 : Int) (by omega) (by have h_ : (0 : Int) < ((t466.length : Int) : Int) := of_decide_eq_true (by first | (with_reducible assumption) | assumption); first | exact h_ | (have e_ := (Kd.S_reads' HO468.out).1; omega) | simpa using h_)
                                  obtain ⟨ve93_2, rfl, ge93_2⟩ := k38_openM hM93
                                  have HP93 := Kd.S_seg hH93 (by omega) (by have h_ : (0 : Int) < ((t466.length : Int) : Int) := of_decide_eq_true (by first | (with_reducible assumption) | assumption); first | exact h_ | (have e_ := (Kd.S_reads' HO468.out).1; omega) | simpa using h_) (seg := [.bool true]) (j := 4) (show 5 ≤ 8 from by decide) (x' := (⟨(rd_T38 t466 0).f0, (rd_T38 t466 0).f1, (rd_T38 t466 0).f2, (rd_T38 t466 0).f3, true, (rd_T38 t466 0).f5, (rd_T38 t466 0).f6, (rd_T38 t466 0).f7⟩ : S38)) (k38_mkM _ _ _ (⟨(rd_T38 t466 0).f0, (rd_T38 t466 0).f1, (rd_T38 t466 0).f2, (rd_T38 t466 0).f3, true, (rd_T38 t466 0).f5, (rd_T38 t466 0).f6, (rd_T38 t466 0).f7⟩ : S38) (Kd.R_mono ge93_2 (fun _ h_ => Or.inl h_))) (fun _ hk => hk) (fun k_ hk_ => hk_.elim)
                                  have hx93_4 := hcc93 4 _ rfl
                                  (try simp only [show (k38).sz = 8 from rfl, Nat.mul_one, Nat.add_zero] at hx93_4)
                                  (try rw [show ((0 : Int)).toNat = 0 from rfl] at hx93_4)
                                  (try simp only [Nat.reduceMul, Nat.zero_mul, Nat.zero_add, Nat.reduceAdd] at hx93_4)
                                  have hf93_4 := hfr93 4
                                  (try simp only [show (k38).sz = 8 from rfl, Nat.mul_one, Nat.add_zero] at hf93_4)
                                  (try rw [show ((0 : Int)).toNat = 0 from rfl] at hf93_4)
                                  (try simp only [Nat.reduceMul, Nat.zero_mul, Nat.zero_add, Nat.reduceAdd] at hf93_4)
                                  clear hcl93 hcc93 hfr93 hM93 hoki93 hH93
                                  go_wp2_with (first | ((with_reducible refine gate_store (t := 4) (p := 99) rfl ?_); refine store_event (t := 4) (p := 99) (v := ?vo_w94) (w1 := (w10.setCell ⟨go88, 4, none⟩ (.bool true))) ?hg ?ho ?hn ?hr ?_; (case ho => rfl); (case hg => rfl); (case hn => rfl); (case hr => first | (go_simp; done) | (go_simp; rfl)); intro w94 hw; have hg : w10.grownBy w94 (some go88) := (by rw [hw]; exact HP93.2); have hp_ : Kd.S k38 38 w94 w.heap.size (fun _ => True) (.slice (some ⟨go88, 0, none⟩) t466.length co88) y491 := (by rw [hw, Ny491.out]; exact HP93.1); clear HP93; have n0_ := Aside0.mk (hp_); have n1_ := Aside0.mk ((by rw [hw]; exact below_set (HB.out) GB88.out : Below w.heap.size w w94)); clear HO468; clear HB; have HO468 := n0_; have HB := n1_; clear n0_ n1_; clear hg hw hp_; have p92 : 0 ≤ ((ji89) : Int) := of_decide_eq_true (by first | (with_reducible assumption) | assumption); have q92 : ((ji89) : Int) < ((t466.length : Int) : Int) := of_decide_eq_true (by first | (with_reducible assumption) | assumption); obtain ⟨_, ce92, hcl92, hM92, hcc92, hfr92, _, _⟩ := Kd.S_elem HO468.out z38 ((ji89) : Int) p92 q92; obtain ⟨ve92_2, rfl, ge92_2⟩ := k38_openM hM92; have hx92_0 : w94.cell? ⟨go88, ((ji89) : Int).toNat * 8, none⟩ = some (.bool ((rd_T38 y491 (ji89)).f0)) := hcc92 0 _ rfl; have hx92_1 : w94.cell? ⟨go88, ((ji89) : Int).toNat * 8 + 1, none⟩ = some (.int .i64 ((rd_T38 y491 (ji89)).f1)) := hcc92 1 _ rfl; have hx92_2 : w94.cell? ⟨go88, ((ji89) : Int).toNat * 8 + 2, none⟩ = some (ve92_2) := hcc92 2 _ rfl; have hx92_3 : w94.cell? ⟨go88, ((ji89) : Int).toNat * 8 + 3, none⟩ = some (.bool ((rd_T38 y491 (ji89)).f3)) := hcc92 3 _ rfl; have hx92_4 : w94.cell? ⟨go88, ((ji89) : Int).toNat * 8 + 4, none⟩ = some (.bool ((rd_T38 y491 (ji89)).f4)) := hcc92 4 _ rfl; have hx92_5 : w94.cell? ⟨go88, ((ji89) : Int).toNat * 8 + 5, none⟩ = some (.bool ((rd_T38 y491 (ji89)).f5)) := hcc92 5 _ rfl; have hx92_6 : w94.cell? ⟨go88, ((ji89) : Int).toNat * 8 + 6, none⟩ = some (.bool ((rd_T38 y491 (ji89)).f6)) := hcc92 6 _ rfl; have hx92_7 : w94.cell? ⟨go88, ((ji89) : Int).toNat * 8 + 7, none⟩ = some (.int .i64 ((rd_T38 y491 (ji89)).f7)) := hcc92 7 _ rfl; have hf92_0 : w94.frozen? ⟨go88, ((ji89) : Int).toNat * 8, none⟩ = false := hfr92 0; have hf92_1 : w94.frozen? ⟨go88, ((ji89) : Int).toNat * 8 + 1, none⟩ = false := hfr92 1; have hf92_2 : w94.frozen? ⟨go88, ((ji89) : Int).toNat * 8 + 2, none⟩ = false := hfr92 2; have hf92_3 : w94.frozen? ⟨go88, ((ji89) : Int).toNat * 8 + 3, none⟩ = false := hfr92 3; have hf92_4 : w94.frozen? ⟨go88, ((ji89) : Int).toNat * 8 + 4, none⟩ = false := hfr92 4; have hf92_5 : w94.frozen? ⟨go88, ((ji89) : Int).toNat * 8 + 5, none⟩ = false := hfr92 5; have hf92_6 : w94.frozen? ⟨go88, ((ji89) : Int).toNat * 8 + 6, none⟩ = false := hfr92 6; have hf92_7 : w94.frozen? ⟨go88, ((ji89) : Int).toNat * 8 + 7, none⟩ = false := hfr92 7; clear hcl92 hcc92 hfr92 hM92; replace p92 := eq_true p92; replace q92 := eq_true q92; have HX95 := Aside0.mk (show Kd.S k38 38 w94 w.heap.size (fun k_ => ((fun _ => True)) k_ ∧ ¬ ((fun _ => False)) k_) (.slice (some ⟨go88, 0, none⟩) t466.length co88) y491 from (by (with_reducible repeat (first | apply Kd.S_alloc | apply Kd.S_drewN | apply Kd.S_drew)); exact Kd.S_mono HO468.out (fun k_ hk => ⟨trivial, fun e_ => e_⟩))); obtain ⟨oki95, ce95, hcl95, hM95, hcc95, hfr95, hoki95, hH95⟩ := Kd.S_elem HX95.out z38 ((ji89) : Int) (of_decide_eq_true (by first | (with_reducible assumption) | assumption)) (by have h_ : ((ji89) : Int) < ((t466.length : Int) : Int) := of_decide_eq_true (by first | (with_reducible assumption) | assumption); first | exact h_ | (have e_ := (Kd.S_reads' HO468.out).1; omega) | simpa using h_); obtain ⟨ve95_2, rfl, ge95_2⟩ := k38_openM hM95; have HP95 := Kd.S_seg hH95 (of_decide_eq_true (by first | (with_reducible assumption) | assumption)) (by have h_ : ((ji89) : Int) < ((t466.length : Int) : Int) := of_decide_eq_true (by first | (with_reducible assumption) | assumption); first | exact h_ | (have e_ := (Kd.S_reads' HO468.out).1; omega) | simpa using h_) (seg := [.bool true]) (j := 4) (show 5 ≤ 8 from by decide) (x' := (⟨(rd_T38 y491 (ji89)).f0, (rd_T38 y491 (ji89)).f1, (rd_T38 y491 (ji89)).f2, (rd_T38 y491 (ji89)).f3, true, (rd_T38 y491 (ji89)).f5, (rd_T38 y491 (ji89)).f6, (rd_T38 y491 (ji89)).f7⟩ : S38)) (k38_mkM _ _ _ (⟨(rd_T38 y491 (ji89)).f0, (rd_T38 y491 (ji89)).f1, (rd_T38 y491 (ji89)).f2, (rd_T38 y491 (ji89)).f3, true, (rd_T38 y491 (ji89)).f5, (rd_T38 y491 (ji89)).f6, (rd_T38 y491 (ji89)).f7⟩ : S38) (Kd.R_mono ge95_2 (fun _ h_ => Or.inl h_))) (fun _ hk => hk) (fun k_ hk_ => hk_.elim); have hx95_4 := hcc95 4 _ rfl; (try simp only [show (k38).sz = 8 from rfl, Nat.mul_one, Nat.add_zero] at hx95_4); have hf95_4 := hfr95 4; (try simp only [show (k38).sz = 8 from rfl, Nat.mul_one, Nat.add_zero] at hf95_4); clear hcl95 hcc95 hfr95 hM95 hoki95 hH95) | ((with_reducible refine gate_store (t := 4) (p := 103) rfl ?_); refine store_event (t := 4) (p := 103) (v := ?vo_w96) (w1 := (w94.setCell ⟨go88, ((ji89) : Int).toNat * 8 + 4, none⟩ (.bool true))) ?hg ?ho ?hn ?hr ?_; (case ho => rfl); (case hg => rfl); (case hn => rfl); (case hr => first | (go_simp; done) | (go_simp; rfl)); intro w96 hw; have hg : w94.grownBy w96 (some go88) := (by rw [hw]; exact HP95.2); have hp_ : Kd.S k38 38 w96 w.heap.size (fun _ => True) (.slice (some ⟨go88, 0, none⟩) t466.length co88) y492 := (by rw [hw, Ny492.out]; exact HP95.1); clear HP95; have n0_ := Aside0.mk (hp_); have n1_ := Aside0.mk ((by rw [hw]; exact below_set (HB.out) GB88.out : Below w.heap.size w w96)); clear HO468; clear HB; have HO468 := n0_; have HB := n1_; clear n0_ n1_; clear hg hw hp_))
                                  subst hji89
                                  go_meet
                                  case rel => exact ⟨_, (y492), H', ⟨by first | omega | exact Nat.le_refl _⟩, ⟨by (with_reducible repeat (first | apply Kd.S_alloc | apply Kd.S_drewN | apply Kd.S_drew)); exact HO468.out⟩, ⟨by repeat (first | (with_reducible first | exact HB.out | apply below_alloc | apply pw_below_drewN | apply below_drew1) | exact HB.out)⟩⟩
                                · rw [if_neg c91] at H
                                  exact absurd H (by simp)
                              · rw [if_neg c90] at H
                                exact absurd H (by simp)
                            · rw [if_neg c87] at H
                              exact absurd H (by simp)
                          · rw [if_neg c86] at H
                            have c86b0 : ((Int.tmod a2 14) == 9) = false := beq_eq_false_iff_ne.mpr c86
                            have c86b1 : ((Int.tmod a2 14) != 9) = true := bne_iff_ne.mpr c86
                            by_cases c97 : (Int.tmod a2 14) = 10
                            · rw [if_pos c97] at H
                              have c97b0 : ((Int.tmod a2 14) == 10) = true := beq_iff_eq.mpr c97
                              have c97b1 : ((Int.tmod a2 14) != 10) = false := bne_eq_false_iff_eq.mpr c97
                              clear c97
                              by_cases c98 : 0 < (t466.length : Int)
                              · rw [if_pos c98] at H
                                have c98b0 : decide (0 < (t466.length : Int)) = true := decide_eq_true c98
                                have c98b1 : decide (0 < t466.length) = true := decide_eq_true (by omega)
                                clear c98
                                obtain ⟨y493, hy493⟩ : ∃ y_ : List (S38), y_ = (t466.set (0 : Int).toNat (⟨(rd_T38 t466 0).f0, (rd_T38 t466 0).f1, (rd_T38 t466 0).f2, (rd_T38 t466 0).f3, (rd_T38 t466 0).f4, (rd_T38 t466 0).f5, (rd_T38 t466 0).f6, 1⟩ : S38)) := ⟨_, rfl⟩
                                replace H : (if 0 ≤ (wrap64 (1 + (Int.tmod (wrap64 (a1)) (wrap64 ((wrap64 (2 + (wrap64 (Int.tmod a0 40)))) - 1))))) then (if (wrap64 (1 + (Int.tmod (wrap64 (a1)) (wrap64 ((wrap64 (2 + (wrap64 (Int.tmod a0 40)))) - 1))))) < (t466.length : Int) then (partitalaw10_TurnsErrors.j0 k true (y493.set ((wrap64 (1 + (Int.tmod (wrap64 (a1)) (wrap64 ((wrap64 (2 + (wrap64 (Int.tmod a0 40)))) - 1))))) : Int).toNat (⟨(rd_T38 y493 (wrap64 (1 + (Int.tmod (wrap64 (a1)) (wrap64 ((wrap64 (2 + (wrap64 (Int.tmod a0 40)))) - 1)))))).f0, (rd_T38 y493 (wrap64 (1 + (Int.tmod (wrap64 (a1)) (wrap64 ((wrap64 (2 + (wrap64 (Int.tmod a0 40)))) - 1)))))).f1, (rd_T38 y493 (wrap64 (1 + (Int.tmod (wrap64 (a1)) (wrap64 ((wrap64 (2 + (wrap64 (Int.tmod a0 40)))) - 1)))))).f2, (rd_T38 y493 (wrap64 (1 + (Int.tmod (wrap64 (a1)) (wrap64 ((wrap64 (2 + (wrap64 (Int.tmod a0 40)))) - 1)))))).f3, (rd_T38 y493 (wrap64 (1 + (Int.tmod (wrap64 (a1)) (wrap64 ((wrap64 (2 + (wrap64 (Int.tmod a0 40)))) - 1)))))).f4, (rd_T38 y493 (wrap64 (1 + (Int.tmod (wrap64 (a1)) (wrap64 ((wrap64 (2 + (wrap64 (Int.tmod a0 40)))) - 1)))))).f5, (rd_T38 y493 (wrap64 (1 + (Int.tmod (wrap64 (a1)) (wrap64 ((wrap64 (2 + (wrap64 (Int.tmod a0 40)))) - 1)))))).f6, 1⟩ : S38)) (wrap64 (1 + (Int.tmod (wrap64 (a1)) (wrap64 ((wrap64 (2 + (wrap64 (Int.tmod a0 40)))) - 1)))))) else (none)) else (none)) = some r := by first | (rw [hy493]; with_reducible exact H) | (have H2_ := (Option.bind_some _ _).symm.trans H; rw [hy493]; with_reducible exact H2_) | (have H2_ := (Option.bind_some _ _).symm.trans H; with_reducible exact H2_) | with_reducible exact H | (rw [hy493]; exact H) | exact H
                                have Ny493 := Aside0.mk hy493
                                clear hy493
                                obtain ⟨ji100, hji100⟩ : ∃ j_ : Int, (wrap64 (1 + (Int.tmod (wrap64 (a1)) (wrap64 ((wrap64 (2 + (wrap64 (Int.tmod a0 40)))) - 1))))) = j_ := ⟨_, rfl⟩
                                replace H : (if 0 ≤ (ji100) then (if (ji100) < (t466.length : Int) then (partitalaw10_TurnsErrors.j0 k true (y493.set ((ji100) : Int).toNat (⟨(rd_T38 y493 (ji100)).f0, (rd_T38 y493 (ji100)).f1, (rd_T38 y493 (ji100)).f2, (rd_T38 y493 (ji100)).f3, (rd_T38 y493 (ji100)).f4, (rd_T38 y493 (ji100)).f5, (rd_T38 y493 (ji100)).f6, 1⟩ : S38)) ji100) else (none)) else (none)) = some r := by first | (rw [hji100] at H; exact H) | (simp only [hji100] at H ⊢; exact H)
                                have hji100w : (IntKind.i64.wrap (1 + (Int.tmod (wrap64 (a1)) (wrap64 ((wrap64 (2 + (wrap64 (Int.tmod a0 40)))) - 1))))) = ji100 := (i64_w _).trans hji100
                                by_cases c101 : 0 ≤ (ji100)
                                · rw [if_pos c101] at H
                                  have c101b0 : decide (0 ≤ (ji100)) = true := decide_eq_true c101
                                  clear c101
                                  by_cases c102 : (ji100) < (t466.length : Int)
                                  · rw [if_pos c102] at H
                                    have c102b0 : decide ((ji100) < (t466.length : Int)) = true := decide_eq_true c102
                                    clear c102
                                    obtain ⟨y494, hy494⟩ : ∃ y_ : List (S38), y_ = (y493.set ((ji100) : Int).toNat (⟨(rd_T38 y493 (ji100)).f0, (rd_T38 y493 (ji100)).f1, (rd_T38 y493 (ji100)).f2, (rd_T38 y493 (ji100)).f3, (rd_T38 y493 (ji100)).f4, (rd_T38 y493 (ji100)).f5, (rd_T38 y493 (ji100)).f6, 1⟩ : S38)) := ⟨_, rfl⟩
                                    replace H : (partitalaw10_TurnsErrors.j0 k true y494 ji100) = some r := by first | (rw [hy494]; with_reducible exact H) | (have H2_ := (Option.bind_some _ _).symm.trans H; rw [hy494]; with_reducible exact H2_) | (have H2_ := (Option.bind_some _ _).symm.trans H; with_reducible exact H2_) | with_reducible exact H | (rw [hy494]; exact H) | exact H
                                    have Ny494 := Aside0.mk hy494
                                    clear hy494
                                    have H' := Aside0.mk H
                                    clear H
                                    have p99 : 0 ≤ (0 : Int) := (by omega)
                                    have q99 : (0 : Int) < ((t466.length : Int) : Int) := of_decide_eq_true (by first | (with_reducible assumption) | assumption)
                                    have qi99 : (0 < t466.length) = True := eq_true (by omega)
                                    obtain ⟨go99, co99, eo99, gb99, gl99, cl99, HG99⟩ := Kd.S_form HO468.out (by omega)
                                    (first | cases eo99 | (injection eo99 with ea_ en_ ec_; (first | subst ea_ | (injection ea_ with ea_; subst ea_)); subst ec_; clear en_))
                                    have GB99 := Aside0.mk gb99
                                    have GG99 := Aside0.mk HG99
                                    clear gb99 gl99 HG99
                                    obtain ⟨_, ce99, hcl99, hM99, hcc99, hfr99, _, _⟩ := Kd.S_elem HO468.out z38 (0 : Int) p99 q99
                                    obtain ⟨ve99_2, rfl, ge99_2⟩ := k38_openM hM99
                                    have hx99_0 : w10.cell? ⟨go99, (0 : Int).toNat * 8, none⟩ = some (.bool ((rd_T38 t466 0).f0)) := hcc99 0 _ rfl
                                    have hx99_1 : w10.cell? ⟨go99, (0 : Int).toNat * 8 + 1, none⟩ = some (.int .i64 ((rd_T38 t466 0).f1)) := hcc99 1 _ rfl
                                    have hx99_2 : w10.cell? ⟨go99, (0 : Int).toNat * 8 + 2, none⟩ = some (ve99_2) := hcc99 2 _ rfl
                                    have hx99_3 : w10.cell? ⟨go99, (0 : Int).toNat * 8 + 3, none⟩ = some (.bool ((rd_T38 t466 0).f3)) := hcc99 3 _ rfl
                                    have hx99_4 : w10.cell? ⟨go99, (0 : Int).toNat * 8 + 4, none⟩ = some (.bool ((rd_T38 t466 0).f4)) := hcc99 4 _ rfl
                                    have hx99_5 : w10.cell? ⟨go99, (0 : Int).toNat * 8 + 5, none⟩ = some (.bool ((rd_T38 t466 0).f5)) := hcc99 5 _ rfl
                                    have hx99_6 : w10.cell? ⟨go99, (0 : Int).toNat * 8 + 6, none⟩ = some (.bool ((rd_T38 t466 0).f6)) := hcc99 6 _ rfl
                                    have hx99_7 : w10.cell? ⟨go99, (0 : Int).toNat * 8 + 7, none⟩ = some (.int .i64 ((rd_T38 t466 0).f7)) := hcc99 7 _ rfl
                                    have hf99_0 : w10.frozen? ⟨go99, (0 : Int).toNat * 8, none⟩ = false := hfr99 0
                                    have hf99_1 : w10.frozen? ⟨go99, (0 : Int).toNat * 8 + 1, none⟩ = false := hfr99 1
                                    have hf99_2 : w10.frozen? ⟨go99, (0 : Int).toNat * 8 + 2, none⟩ = false := hfr99 2
                                    have hf99_3 : w10.frozen? ⟨go99, (0 : Int).toNat * 8 + 3, none⟩ = false := hfr99 3
                                    have hf99_4 : w10.frozen? ⟨go99, (0 : Int).toNat * 8 + 4, none⟩ = false := hfr99 4
                                    have hf99_5 : w10.frozen? ⟨go99, (0 : Int).toNat * 8 + 5, none⟩ = false := hfr99 5
                                    have hf99_6 : w10.frozen? ⟨go99, (0 : Int).toNat * 8 + 6, none⟩ = false := hfr99 6
                                    have hf99_7 : w10.frozen? ⟨go99, (0 : Int).toNat * 8 + 7, none⟩ = false := hfr99 7
                                    clear hcl99 hcc99 hfr99 hM99
                                    (try rw [show ((0 : Int)).toNat = 0 from rfl] at hx99_0)
                                    (try simp only [Nat.reduceMul, Nat.zero_mul, Nat.zero_add, Nat.reduceAdd] at hx99_0)
                                    (try rw [show ((0 : Int)).toNat = 0 from rfl] at hf99_0)
                                    (try simp only [Nat.reduceMul, Nat.zero_mul, Nat.zero_add, Nat.reduceAdd] at hf99_0)
                                    (try rw [show ((0 : Int)).toNat = 0 from rfl] at hx99_1)
                                    (try simp only [Nat.reduceMul, Nat.zero_mul, Nat.zero_add, Nat.reduceAdd] at hx99_1)
                                    (try rw [show ((0 : Int)).toNat = 0 from rfl] at hf99_1)
                                    (try simp only [Nat.reduceMul, Nat.zero_mul, Nat.zero_add, Nat.reduceAdd] at hf99_1)
                                    (try rw [show ((0 : Int)).toNat = 0 from rfl] at hx99_2)
                                    (try simp only [Nat.reduceMul, Nat.zero_mul, Nat.zero_add, Nat.reduceAdd] at hx99_2)
                                    (try rw [show ((0 : Int)).toNat = 0 from rfl] at hf99_2)
                                    (try simp only [Nat.reduceMul, Nat.zero_mul, Nat.zero_add, Nat.reduceAdd] at hf99_2)
                                    (try rw [show ((0 : Int)).toNat = 0 from rfl] at hx99_3)
                                    (try simp only [Nat.reduceMul, Nat.zero_mul, Nat.zero_add, Nat.reduceAdd] at hx99_3)
                                    (try rw [show ((0 : Int)).toNat = 0 from rfl] at hf99_3)
                                    (try simp only [Nat.reduceMul, Nat.zero_mul, Nat.zero_add, Nat.reduceAdd] at hf99_3)
                                    (try rw [show ((0 : Int)).toNat = 0 from rfl] at hx99_4)
                                    (try simp only [Nat.reduceMul, Nat.zero_mul, Nat.zero_add, Nat.reduceAdd] at hx99_4)
                                    (try rw [show ((0 : Int)).toNat = 0 from rfl] at hf99_4)
                                    (try simp only [Nat.reduceMul, Nat.zero_mul, Nat.zero_add, Nat.reduceAdd] at hf99_4)
                                    (try rw [show ((0 : Int)).toNat = 0 from rfl] at hx99_5)
                                    (try simp only [Nat.reduceMul, Nat.zero_mul, Nat.zero_add, Nat.reduceAdd] at hx99_5)
                                    (try rw [show ((0 : Int)).toNat = 0 from rfl] at hf99_5)
                                    (try simp only [Nat.reduceMul, Nat.zero_mul, Nat.zero_add, Nat.reduceAdd] at hf99_5)
                                    (try rw [show ((0 : Int)).toNat = 0 from rfl] at hx99_6)
                                    (try simp only [Nat.reduceMul, Nat.zero_mul, Nat.zero_add, Nat.reduceAdd] at hx99_6)
                                    (try rw [show ((0 : Int)).toNat = 0 from rfl] at hf99_6)
                                    (try simp only [Nat.reduceMul, Nat.zero_mul, Nat.zero_add, Nat.reduceAdd] at hf99_6)
                                    (try rw [show ((0 : Int)).toNat = 0 from rfl] at hx99_7)
                                    (try simp only [Nat.reduceMul, Nat.zero_mul, Nat.zero_add, Nat.reduceAdd] at hx99_7)
                                    (try rw [show ((0 : Int)).toNat = 0 from rfl] at hf99_7)
                                    (try simp only [Nat.reduceMul, Nat.zero_mul, Nat.zero_add, Nat.reduceAdd] at hf99_7)
                                    replace p99 := eq_true p99
                                    replace q99 := eq_true q99
                                    have HX104 := Aside0.mk (show Kd.S k38 38 w10 w.heap.size (fun k_ => ((fun _ => True)) k_ ∧ ¬ ((fun _ => False)) k_) (.slice (some ⟨go99, 0, none⟩) t466.length co99) t466 from (by (with_reducible repeat (first | apply Kd.S_alloc | apply Kd.S_drewN | apply Kd.S_drew)); exact Kd.S_mono HO468.out (fun k_ hk => ⟨trivial, fun e_ => e_⟩)))
                                    obtain ⟨oki104, ce104, hcl104, hM104, hcc104, hfr104, hoki104, hH104⟩ := Kd.S_elem HX104.out z38 (0 : Int) (by omega) (by have h_ : (0 : Int) < ((t466.length : Int) : Int) := of_decide_eq_true (by first | (with_reducible assumption) | assumption); first | exact h_ | (have e_ := (Kd.S_reads' HO468.out).1; omega) | simpa using h_)
                                    obtain ⟨ve104_2, rfl, ge104_2⟩ := k38_openM hM104
                                    have HP104 := Kd.S_seg hH104 (by omega) (by have h_ : (0 : Int) < ((t466.length : Int) : Int) := of_decide_eq_true (by first | (with_reducible assumption) | assumption); first | exact h_ | (have e_ := (Kd.S_reads' HO468.out).1; omega) | simpa using h_) (seg := [.int .i64 1]) (j := 7) (show 8 ≤ 8 from by decide) (x' := (⟨(rd_T38 t466 0).f0, (rd_T38 t466 0).f1, (rd_T38 t466 0).f2, (rd_T38 t466 0).f3, (rd_T38 t466 0).f4, (rd_T38 t466 0).f5, (rd_T38 t466 0).f6, 1⟩ : S38)) (k38_mkM _ _ _ (⟨(rd_T38 t466 0).f0, (rd_T38 t466 0).f1, (rd_T38 t466 0).f2, (rd_T38 t466 0).f3, (rd_T38 t466 0).f4, (rd_T38 t466 0).f5, (rd_T38 t466 0).f6, 1⟩ : S38) (Kd.R_mono ge104_2 (fun _ h_ => Or.inl h_))) (fun _ hk => hk) (fun k_ hk_ => hk_.elim)
                                    have hx104_7 := hcc104 7 _ rfl
                                    (try simp only [show (k38).sz = 8 from rfl, Nat.mul_one, Nat.add_zero] at hx104_7)
                                    (try rw [show ((0 : Int)).toNat = 0 from rfl] at hx104_7)
                                    (try simp only [Nat.reduceMul, Nat.zero_mul, Nat.zero_add, Nat.reduceAdd] at hx104_7)
                                    have hf104_7 := hfr104 7
                                    (try simp only [show (k38).sz = 8 from rfl, Nat.mul_one, Nat.add_zero] at hf104_7)
                                    (try rw [show ((0 : Int)).toNat = 0 from rfl] at hf104_7)
                                    (try simp only [Nat.reduceMul, Nat.zero_mul, Nat.zero_add, Nat.reduceAdd] at hf104_7)
                                    clear hcl104 hcc104 hfr104 hM104 hoki104 hH104
                                    go_wp2_with (first | ((with_reducible refine gate_store (t := 3) (p := 108) rfl ?_); refine store_event (t := 3) (p := 108) (v := ?vo_w105) (w1 := (w10.setCell ⟨go99, 7, none⟩ (.int .i64 1))) ?hg ?ho ?hn ?hr ?_; (case ho => rfl); (case hg => rfl); (case hn => rfl); (case hr => first | (go_simp; done) | (go_simp; rfl)); intro w105 hw; have hg : w10.grownBy w105 (some go99) := (by rw [hw]; exact HP104.2); have hp_ : Kd.S k38 38 w105 w.heap.size (fun _ => True) (.slice (some ⟨go99, 0, none⟩) t466.length co99) y493 := (by rw [hw, Ny493.out]; exact HP104.1); clear HP104; have n0_ := Aside0.mk (hp_); have n1_ := Aside0.mk ((by rw [hw]; exact below_set (HB.out) GB99.out : Below w.heap.size w w105)); clear HO468; clear HB; have HO468 := n0_; have HB := n1_; clear n0_ n1_; clear hg hw hp_; have p103 : 0 ≤ ((ji100) : Int) := of_decide_eq_true (by first | (with_reducible assumption) | assumption); have q103 : ((ji100) : Int) < ((t466.length : Int) : Int) := of_decide_eq_true (by first | (with_reducible assumption) | assumption); obtain ⟨_, ce103, hcl103, hM103, hcc103, hfr103, _, _⟩ := Kd.S_elem HO468.out z38 ((ji100) : Int) p103 q103; obtain ⟨ve103_2, rfl, ge103_2⟩ := k38_openM hM103; have hx103_0 : w105.cell? ⟨go99, ((ji100) : Int).toNat * 8, none⟩ = some (.bool ((rd_T38 y493 (ji100)).f0)) := hcc103 0 _ rfl; have hx103_1 : w105.cell? ⟨go99, ((ji100) : Int).toNat * 8 + 1, none⟩ = some (.int .i64 ((rd_T38 y493 (ji100)).f1)) := hcc103 1 _ rfl; have hx103_2 : w105.cell? ⟨go99, ((ji100) : Int).toNat * 8 + 2, none⟩ = some (ve103_2) := hcc103 2 _ rfl; have hx103_3 : w105.cell? ⟨go99, ((ji100) : Int).toNat * 8 + 3, none⟩ = some (.bool ((rd_T38 y493 (ji100)).f3)) := hcc103 3 _ rfl; have hx103_4 : w105.cell? ⟨go99, ((ji100) : Int).toNat * 8 + 4, none⟩ = some (.bool ((rd_T38 y493 (ji100)).f4)) := hcc103 4 _ rfl; have hx103_5 : w105.cell? ⟨go99, ((ji100) : Int).toNat * 8 + 5, none⟩ = some (.bool ((rd_T38 y493 (ji100)).f5)) := hcc103 5 _ rfl; have hx103_6 : w105.cell? ⟨go99, ((ji100) : Int).toNat * 8 + 6, none⟩ = some (.bool ((rd_T38 y493 (ji100)).f6)) := hcc103 6 _ rfl; have hx103_7 : w105.cell? ⟨go99, ((ji100) : Int).toNat * 8 + 7, none⟩ = some (.int .i64 ((rd_T38 y493 (ji100)).f7)) := hcc103 7 _ rfl; have hf103_0 : w105.frozen? ⟨go99, ((ji100) : Int).toNat * 8, none⟩ = false := hfr103 0; have hf103_1 : w105.frozen? ⟨go99, ((ji100) : Int).toNat * 8 + 1, none⟩ = false := hfr103 1; have hf103_2 : w105.frozen? ⟨go99, ((ji100) : Int).toNat * 8 + 2, none⟩ = false := hfr103 2; have hf103_3 : w105.frozen? ⟨go99, ((ji100) : Int).toNat * 8 + 3, none⟩ = false := hfr103 3; have hf103_4 : w105.frozen? ⟨go99, ((ji100) : Int).toNat * 8 + 4, none⟩ = false := hfr103 4; have hf103_5 : w105.frozen? ⟨go99, ((ji100) : Int).toNat * 8 + 5, none⟩ = false := hfr103 5; have hf103_6 : w105.frozen? ⟨go99, ((ji100) : Int).toNat * 8 + 6, none⟩ = false := hfr103 6; have hf103_7 : w105.frozen? ⟨go99, ((ji100) : Int).toNat * 8 + 7, none⟩ = false := hfr103 7; clear hcl103 hcc103 hfr103 hM103; replace p103 := eq_true p103; replace q103 := eq_true q103; have HX106 := Aside0.mk (show Kd.S k38 38 w105 w.heap.size (fun k_ => ((fun _ => True)) k_ ∧ ¬ ((fun _ => False)) k_) (.slice (some ⟨go99, 0, none⟩) t466.length co99) y493 from (by (with_reducible repeat (first | apply Kd.S_alloc | apply Kd.S_drewN | apply Kd.S_drew)); exact Kd.S_mono HO468.out (fun k_ hk => ⟨trivial, fun e_ => e_⟩))); obtain ⟨oki106, ce106, hcl106, hM106, hcc106, hfr106, hoki106, hH106⟩ := Kd.S_elem HX106.out z38 ((ji100) : Int) (of_decide_eq_true (by first | (with_reducible assumption) | assumption)) (by have h_ : ((ji100) : Int) < ((t466.length : Int) : Int) := of_decide_eq_true (by first | (with_reducible assumption) | assumption); first | exact h_ | (have e_ := (Kd.S_reads' HO468.out).1; omega) | simpa using h_); obtain ⟨ve106_2, rfl, ge106_2⟩ := k38_openM hM106; have HP106 := Kd.S_seg hH106 (of_decide_eq_true (by first | (with_reducible assumption) | assumption)) (by have h_ : ((ji100) : Int) < ((t466.length : Int) : Int) := of_decide_eq_true (by first | (with_reducible assumption) | assumption); first | exact h_ | (have e_ := (Kd.S_reads' HO468.out).1; omega) | simpa using h_) (seg := [.int .i64 1]) (j := 7) (show 8 ≤ 8 from by decide) (x' := (⟨(rd_T38 y493 (ji100)).f0, (rd_T38 y493 (ji100)).f1, (rd_T38 y493 (ji100)).f2, (rd_T38 y493 (ji100)).f3, (rd_T38 y493 (ji100)).f4, (rd_T38 y493 (ji100)).f5, (rd_T38 y493 (ji100)).f6, 1⟩ : S38)) (k38_mkM _ _ _ (⟨(rd_T38 y493 (ji100)).f0, (rd_T38 y493 (ji100)).f1, (rd_T38 y493 (ji100)).f2, (rd_T38 y493 (ji100)).f3, (rd_T38 y493 (ji100)).f4, (rd_T38 y493 (ji100)).f5, (rd_T38 y493 (ji100)).f6, 1⟩ : S38) (Kd.R_mono ge106_2 (fun _ h_ => Or.inl h_))) (fun _ hk => hk) (fun k_ hk_ => hk_.elim); have hx106_7 := hcc106 7 _ rfl; (try simp only [show (k38).sz = 8 from rfl, Nat.mul_one, Nat.add_zero] at hx106_7); have hf106_7 := hfr106 7; (try simp only [show (k38).sz = 8 from rfl, Nat.mul_one, Nat.add_zero] at hf106_7); clear hcl106 hcc106 hfr106 hM106 hoki106 hH106) | ((with_reducible refine gate_store (t := 3) (p := 112) rfl ?_); refine store_event (t := 3) (p := 112) (v := ?vo_w107) (w1 := (w105.setCell ⟨go99, ((ji100) : Int).toNat * 8 + 7, none⟩ (.int .i64 1))) ?hg ?ho ?hn ?hr ?_; (case ho => rfl); (case hg => rfl); (case hn => rfl); (case hr => first | (go_simp; done) | (go_simp; rfl)); intro w107 hw; have hg : w105.grownBy w107 (some go99) := (by rw [hw]; exact HP106.2); have hp_ : Kd.S k38 38 w107 w.heap.size (fun _ => True) (.slice (some ⟨go99, 0, none⟩) t466.length co99) y494 := (by rw [hw, Ny494.out]; exact HP106.1); clear HP106; have n0_ := Aside0.mk (hp_); have n1_ := Aside0.mk ((by rw [hw]; exact below_set (HB.out) GB99.out : Below w.heap.size w w107)); clear HO468; clear HB; have HO468 := n0_; have HB := n1_; clear n0_ n1_; clear hg hw hp_))
                                    subst hji100
                                    go_meet
                                    case rel => exact ⟨_, (y494), H', ⟨by first | omega | exact Nat.le_refl _⟩, ⟨by (with_reducible repeat (first | apply Kd.S_alloc | apply Kd.S_drewN | apply Kd.S_drew)); exact HO468.out⟩, ⟨by repeat (first | (with_reducible first | exact HB.out | apply below_alloc | apply pw_below_drewN | apply below_drew1) | exact HB.out)⟩⟩
                                  · rw [if_neg c102] at H
                                    exact absurd H (by simp)
                                · rw [if_neg c101] at H
                                  exact absurd H (by simp)
                              · rw [if_neg c98] at H
                                exact absurd H (by simp)
                            · rw [if_neg c97] at H
                              have c97b0 : ((Int.tmod a2 14) == 10) = false := beq_eq_false_iff_ne.mpr c97
                              have c97b1 : ((Int.tmod a2 14) != 10) = true := bne_iff_ne.mpr c97
                              by_cases c108 : (Int.tmod a2 14) = 11
                              · rw [if_pos c108] at H
                                have c108b0 : ((Int.tmod a2 14) == 11) = true := beq_iff_eq.mpr c108
                                have c108b1 : ((Int.tmod a2 14) != 11) = false := bne_eq_false_iff_eq.mpr c108
                                clear c108
                                obtain ⟨ji109, hji109⟩ : ∃ j_ : Int, (wrap64 (1 + (Int.tmod (wrap64 (a1)) (wrap64 ((wrap64 (2 + (wrap64 (Int.tmod a0 40)))) - 1))))) = j_ := ⟨_, rfl⟩
                                replace H : (if 0 ≤ (ji109) then (if (ji109) < (t466.length : Int) then ((some (t466.set ((ji109) : Int).toNat (⟨(rd_T38 t466 (ji109)).f0, (rd_T38 t466 (ji109)).f1, (rd_T38 t466 (ji109)).f2, (rd_T38 t466 (ji109)).f3, (rd_T38 t466 (ji109)).f4, (rd_T38 t466 (ji109)).f5, (rd_T38 t466 (ji109)).f6, wrap64 (4 + (wrap64 (Int.tmod a1 3)))⟩ : S38) : List (S38))).bind fun y495 => (if 0 < (t466.length : Int) then ((some (y495.set (0 : Int).toNat (⟨(rd_T38 y495 0).f0, (rd_T38 y495 0).f1, (rd_T38 y495 0).f2, (rd_T38 y495 0).f3, (rd_T38 y495 0).f4, (rd_T38 y495 0).f5, true, (rd_T38 y495 0).f7⟩ : S38) : List (S38))).bind fun y496 => ((some (y496.set (0 : Int).toNat (⟨(rd_T38 y496 0).f0, (rd_T38 y496 0).f1, (rd_T38 y496 0).f2, (rd_T38 y496 0).f3, (rd_T38 y496 0).f4, true, (rd_T38 y496 0).f6, (rd_T38 y496 0).f7⟩ : S38) : List (S38))).bind fun y497 => (partitalaw10_TurnsErrors.j0 k true (y497.set (0 : Int).toNat (⟨(rd_T38 y497 0).f0, (rd_T38 y497 0).f1, (rd_T38 y497 0).f2, (rd_T38 y497 0).f3, true, (rd_T38 y497 0).f5, (rd_T38 y497 0).f6, (rd_T38 y497 0).f7⟩ : S38)) ji109))) else (none))) else (none)) else (none)) = some r := by first | (rw [hji109] at H; exact H) | (simp only [hji109] at H ⊢; exact H)
                                have hji109w : (IntKind.i64.wrap (1 + (Int.tmod (wrap64 (a1)) (wrap64 ((wrap64 (2 + (wrap64 (Int.tmod a0 40)))) - 1))))) = ji109 := (i64_w _).trans hji109
                                by_cases c110 : 0 ≤ (ji109)
                                · rw [if_pos c110] at H
                                  have c110b0 : decide (0 ≤ (ji109)) = true := decide_eq_true c110
                                  clear c110
                                  by_cases c111 : (ji109) < (t466.length : Int)
                                  · rw [if_pos c111] at H
                                    have c111b0 : decide ((ji109) < (t466.length : Int)) = true := decide_eq_true c111
                                    clear c111
                                    obtain ⟨y495, hy495⟩ : ∃ y_ : List (S38), y_ = (t466.set ((ji109) : Int).toNat (⟨(rd_T38 t466 (ji109)).f0, (rd_T38 t466 (ji109)).f1, (rd_T38 t466 (ji109)).f2, (rd_T38 t466 (ji109)).f3, (rd_T38 t466 (ji109)).f4, (rd_T38 t466 (ji109)).f5, (rd_T38 t466 (ji109)).f6, wrap64 (4 + (wrap64 (Int.tmod a1 3)))⟩ : S38)) := ⟨_, rfl⟩
                                    replace H : (if 0 < (t466.length : Int) then ((some (y495.set (0 : Int).toNat (⟨(rd_T38 y495 0).f0, (rd_T38 y495 0).f1, (rd_T38 y495 0).f2, (rd_T38 y495 0).f3, (rd_T38 y495 0).f4, (rd_T38 y495 0).f5, true, (rd_T38 y495 0).f7⟩ : S38) : List (S38))).bind fun y496 => ((some (y496.set (0 : Int).toNat (⟨(rd_T38 y496 0).f0, (rd_T38 y496 0).f1, (rd_T38 y496 0).f2, (rd_T38 y496 0).f3, (rd_T38 y496 0).f4, true, (rd_T38 y496 0).f6, (rd_T38 y496 0).f7⟩ : S38) : List (S38))).bind fun y497 => (partitalaw10_TurnsErrors.j0 k true (y497.set (0 : Int).toNat (⟨(rd_T38 y497 0).f0, (rd_T38 y497 0).f1, (rd_T38 y497 0).f2, (rd_T38 y497 0).f3, true, (rd_T38 y497 0).f5, (rd_T38 y497 0).f6, (rd_T38 y497 0).f7⟩ : S38)) ji109))) else (none)) = some r := by first | (rw [hy495]; with_reducible exact H) | (have H2_ := (Option.bind_some _ _).symm.trans H; rw [hy495]; with_reducible exact H2_) | (have H2_ := (Option.bind_some _ _).symm.trans H; with_reducible exact H2_) | with_reducible exact H | (rw [hy495]; exact H) | exact H
                                    have Ny495 := Aside0.mk hy495
                                    clear hy495
                                    by_cases c113 : 0 < (t466.length : Int)
                                    · rw [if_pos c113] at H
                                      have c113b0 : decide (0 < (t466.length : Int)) = true := decide_eq_true c113
                                      have c113b1 : decide (0 < t466.length) = true := decide_eq_true (by omega)
                                      clear c113
                                      obtain ⟨y496, hy496⟩ : ∃ y_ : List (S38), y_ = (y495.set (0 : Int).toNat (⟨(rd_T38 y495 0).f0, (rd_T38 y495 0).f1, (rd_T38 y495 0).f2, (rd_T38 y495 0).f3, (rd_T38 y495 0).f4, (rd_T38 y495 0).f5, true, (rd_T38 y495 0).f7⟩ : S38)) := ⟨_, rfl⟩
                                      replace H : ((some (y496.set (0 : Int).toNat (⟨(rd_T38 y496 0).f0, (rd_T38 y496 0).f1, (rd_T38 y496 0).f2, (rd_T38 y496 0).f3, (rd_T38 y496 0).f4, true, (rd_T38 y496 0).f6, (rd_T38 y496 0).f7⟩ : S38) : List (S38))).bind fun y497 => (partitalaw10_TurnsErrors.j0 k true (y497.set (0 : Int).toNat (⟨(rd_T38 y497 0).f0, (rd_T38 y497 0).f1, (rd_T38 y497 0).f2, (rd_T38 y497 0).f3, true, (rd_T38 y497 0).f5, (rd_T38 y497 0).f6, (rd_T38 y497 0).f7⟩ : S38)) ji109)) = some r := by first | (rw [hy496]; with_reducible exact H) | (have H2_ := (Option.bind_some _ _).symm.trans H; rw [hy496]; with_reducible exact H2_) | (have H2_ := (Option.bind_some _ _).symm.trans H; with_reducible exact H2_) | with_reducible exact H | (rw [hy496]; exact H) | exact H
                                      have Ny496 := Aside0.mk hy496
                                      clear hy496
                                      obtain ⟨y497, hy497⟩ : ∃ y_ : List (S38), y_ = (y496.set (0 : Int).toNat (⟨(rd_T38 y496 0).f0, (rd_T38 y496 0).f1, (rd_T38 y496 0).f2, (rd_T38 y496 0).f3, (rd_T38 y496 0).f4, true, (rd_T38 y496 0).f6, (rd_T38 y496 0).f7⟩ : S38)) := ⟨_, rfl⟩
                                      replace H : (partitalaw10_TurnsErrors.j0 k true (y497.set (0 : Int).toNat (⟨(rd_T38 y497 0).f0, (rd_T38 y497 0).f1, (rd_T38 y497 0).f2, (rd_T38 y497 0).f3, true, (rd_T38 y497 0).f5, (rd_T38 y497 0).f6, (rd_T38 y497 0).f7⟩ : S38)) ji109) = some r := by first | (rw [hy497]; with_reducible exact H) | (have H2_ := (Option.bind_some _ _).symm.trans H; rw [hy497]; with_reducible exact H2_) | (have H2_ := (Option.bind_some _ _).symm.trans H; with_reducible exact H2_) | with_reducible exact H | (rw [hy497]; exact H) | exact H
                                      have Ny497 := Aside0.mk hy497
                                      clear hy497
                                      obtain ⟨y498, hy498⟩ : ∃ y_ : List (S38), y_ = (y497.set (0 : Int).toNat (⟨(rd_T38 y497 0).f0, (rd_T38 y497 0).f1, (rd_T38 y497 0).f2, (rd_T38 y497 0).f3, true, (rd_T38 y497 0).f5, (rd_T38 y497 0).f6, (rd_T38 y497 0).f7⟩ : S38)) := ⟨_, rfl⟩
                                      replace H : (partitalaw10_TurnsErrors.j0 k true y498 ji109) = some r := by first | (rw [hy498]; with_reducible exact H) | (have H2_ := (Option.bind_some _ _).symm.trans H; rw [hy498]; with_reducible exact H2_) | (have H2_ := (Option.bind_some _ _).symm.trans H; with_reducible exact H2_) | with_reducible exact H | (rw [hy498]; exact H) | exact H
                                      have Ny498 := Aside0.mk hy498
                                      clear hy498
                                      have H' := Aside0.mk H
                                      clear H
                                      have p112 : 0 ≤ ((ji109) : Int) := of_decide_eq_true (by first | (with_reducible assumption) | assumption)
                                      have q112 : ((ji109) : Int) < ((t466.length : Int) : Int) := of_decide_eq_true (by first | (with_reducible assumption) | assumption)
                                      obtain ⟨go112, co112, eo112, gb112, gl112, cl112, HG112⟩ := Kd.S_form HO468.out (by omega)
                                      (first | cases eo112 | (injection eo112 with ea_ en_ ec_; (first | subst ea_ | (injection ea_ with ea_; subst ea_)); subst ec_; clear en_))
                                      have GB112 := Aside0.mk gb112
                                      have GG112 := Aside0.mk HG112
                                      clear gb112 gl112 HG112
                                      obtain ⟨_, ce112, hcl112, hM112, hcc112, hfr112, _, _⟩ := Kd.S_elem HO468.out z38 ((ji109) : Int) p112 q112
                                      obtain ⟨ve112_2, rfl, ge112_2⟩ := k38_openM hM112
                                      have hx112_0 : w10.cell? ⟨go112, ((ji109) : Int).toNat * 8, none⟩ = some (.bool ((rd_T38 t466 (ji109)).f0)) := hcc112 0 _ rfl
                                      have hx112_1 : w10.cell? ⟨go112, ((ji109) : Int).toNat * 8 + 1, none⟩ = some (.int .i64 ((rd_T38 t466 (ji109)).f1)) := hcc112 1 _ rfl
                                      have hx112_2 : w10.cell? ⟨go112, ((ji109) : Int).toNat * 8 + 2, none⟩ = some (ve112_2) := hcc112 2 _ rfl
                                      have hx112_3 : w10.cell? ⟨go112, ((ji109) : Int).toNat * 8 + 3, none⟩ = some (.bool ((rd_T38 t466 (ji109)).f3)) := hcc112 3 _ rfl
                                      have hx112_4 : w10.cell? ⟨go112, ((ji109) : Int).toNat * 8 + 4, none⟩ = some (.bool ((rd_T38 t466 (ji109)).f4)) := hcc112 4 _ rfl
                                      have hx112_5 : w10.cell? ⟨go112, ((ji109) : Int).toNat * 8 + 5, none⟩ = some (.bool ((rd_T38 t466 (ji109)).f5)) := hcc112 5 _ rfl
                                      have hx112_6 : w10.cell? ⟨go112, ((ji109) : Int).toNat * 8 + 6, none⟩ = some (.bool ((rd_T38 t466 (ji109)).f6)) := hcc112 6 _ rfl
                                      have hx112_7 : w10.cell? ⟨go112, ((ji109) : Int).toNat * 8 + 7, none⟩ = some (.int .i64 ((rd_T38 t466 (ji109)).f7)) := hcc112 7 _ rfl
                                      have hf112_0 : w10.frozen? ⟨go112, ((ji109) : Int).toNat * 8, none⟩ = false := hfr112 0
                                      have hf112_1 : w10.frozen? ⟨go112, ((ji109) : Int).toNat * 8 + 1, none⟩ = false := hfr112 1
                                      have hf112_2 : w10.frozen? ⟨go112, ((ji109) : Int).toNat * 8 + 2, none⟩ = false := hfr112 2
                                      have hf112_3 : w10.frozen? ⟨go112, ((ji109) : Int).toNat * 8 + 3, none⟩ = false := hfr112 3
                                      have hf112_4 : w10.frozen? ⟨go112, ((ji109) : Int).toNat * 8 + 4, none⟩ = false := hfr112 4
                                      have hf112_5 : w10.frozen? ⟨go112, ((ji109) : Int).toNat * 8 + 5, none⟩ = false := hfr112 5
                                      have hf112_6 : w10.frozen? ⟨go112, ((ji109) : Int).toNat * 8 + 6, none⟩ = false := hfr112 6
                                      have hf112_7 : w10.frozen? ⟨go112, ((ji109) : Int).toNat * 8 + 7, none⟩ = false := hfr112 7
                                      clear hcl112 hcc112 hfr112 hM112
                                      replace p112 := eq_true p112
                                      replace q112 := eq_true q112
                                      have HX117 := Aside0.mk (show Kd.S k38 38 w10 w.heap.size (fun k_ => ((fun _ => True)) k_ ∧ ¬ ((fun _ => False)) k_) (.slice (some ⟨go112, 0, none⟩) t466.length co112) t466 from (by (with_reducible repeat (first | apply Kd.S_alloc | apply Kd.S_drewN | apply Kd.S_drew)); exact Kd.S_mono HO468.out (fun k_ hk => ⟨trivial, fun e_ => e_⟩)))
                                      obtain ⟨oki117, ce117, hcl117, hM117, hcc117, hfr117, hoki117, hH117⟩ := Kd.S_elem HX117.out z38 ((ji109) : Int) (of_decide_eq_true (by first | (with_reducible assumption) | assumption)) (by have h_ : ((ji109) : Int) < ((t466.length : Int) : Int) := of_decide_eq_true (by first | (with_reducible assumption) | assumption); first | exact h_ | (have e_ := (Kd.S_reads' HO468.out).1; omega) | simpa using h_)
                                      obtain ⟨ve117_2, rfl, ge117_2⟩ := k38_openM hM117
                                      have HP117 := Kd.S_seg hH117 (of_decide_eq_true (by first | (with_reducible assumption) | assumption)) (by have h_ : ((ji109) : Int) < ((t466.length : Int) : Int) := of_decide_eq_true (by first | (with_reducible assumption) | assumption); first | exact h_ | (have e_ := (Kd.S_reads' HO468.out).1; omega) | simpa using h_) (seg := [.int .i64 (wrap64 (4 + (wrap64 (Int.tmod a1 3))))]) (j := 7) (show 8 ≤ 8 from by decide) (x' := (⟨(rd_T38 t466 (ji109)).f0, (rd_T38 t466 (ji109)).f1, (rd_T38 t466 (ji109)).f2, (rd_T38 t466 (ji109)).f3, (rd_T38 t466 (ji109)).f4, (rd_T38 t466 (ji109)).f5, (rd_T38 t466 (ji109)).f6, wrap64 (4 + (wrap64 (Int.tmod a1 3)))⟩ : S38)) (k38_mkM _ _ _ (⟨(rd_T38 t466 (ji109)).f0, (rd_T38 t466 (ji109)).f1, (rd_T38 t466 (ji109)).f2, (rd_T38 t466 (ji109)).f3, (rd_T38 t466 (ji109)).f4, (rd_T38 t466 (ji109)).f5, (rd_T38 t466 (ji109)).f6, wrap64 (4 + (wrap64 (Int.tmod a1 3)))⟩ : S38) (Kd.R_mono ge117_2 (fun _ h_ => Or.inl h_))) (fun _ hk => hk) (fun k_ hk_ => hk_.elim)
                                      have hx117_7 := hcc117 7 _ rfl
                                      (try simp only [show (k38).sz = 8 from rfl, Nat.mul_one, Nat.add_zero] at hx117_7)
                                      have hf117_7 := hfr117 7
                                      (try simp only [show (k38).sz = 8 from rfl, Nat.mul_one, Nat.add_zero] at hf117_7)
                                      clear hcl117 hcc117 hfr117 hM117 hoki117 hH117
                                      go_wp2_with (first | ((with_reducible refine gate_store (t := 3) (p := 122) rfl ?_); refine store_event (t := 3) (p := 122) (v := ?vo_w118) (w1 := (w10.setCell ⟨go112, ((ji109) : Int).toNat * 8 + 7, none⟩ (.int .i64 (wrap64 (4 + (wrap64 (Int.tmod a1 3))))))) ?hg ?ho ?hn ?hr ?_; (case ho => rfl); (case hg => rfl); (case hn => rfl); (case hr => first | (go_simp; done) | (go_simp; rfl)); intro w118 hw; have hg : w10.grownBy w118 (some go112) := (by rw [hw]; exact HP117.2); have hp_ : Kd.S k38 38 w118 w.heap.size (fun _ => True) (.slice (some ⟨go112, 0, none⟩) t466.length co112) y495 := (by rw [hw, Ny495.out]; exact HP117.1); clear HP117; have n0_ := Aside0.mk (hp_); have n1_ := Aside0.mk ((by rw [hw]; exact below_set (HB.out) GB112.out : Below w.heap.size w w118)); clear HO468; clear HB; have HO468 := n0_; have HB := n1_; clear n0_ n1_; clear hg hw hp_; have p114 : 0 ≤ (0 : Int) := (by omega); have q114 : (0 : Int) < ((t466.length : Int) : Int) := of_decide_eq_true (by first | (with_reducible assumption) | assumption); have qi114 : (0 < t466.length) = True := eq_true (by omega); obtain ⟨_, ce114, hcl114, hM114, hcc114, hfr114, _, _⟩ := Kd.S_elem HO468.out z38 (0 : Int) p114 q114; obtain ⟨ve114_2, rfl, ge114_2⟩ := k38_openM hM114; have hx114_0 : w118.cell? ⟨go112, (0 : Int).toNat * 8, none⟩ = some (.bool ((rd_T38 y495 0).f0)) := hcc114 0 _ rfl; have hx114_1 : w118.cell? ⟨go112, (0 : Int).toNat * 8 + 1, none⟩ = some (.int .i64 ((rd_T38 y495 0).f1)) := hcc114 1 _ rfl; have hx114_2 : w118.cell? ⟨go112, (0 : Int).toNat * 8 + 2, none⟩ = some (ve114_2) := hcc114 2 _ rfl; have hx114_3 : w118.cell? ⟨go112, (0 : Int).toNat * 8 + 3, none⟩ = some (.bool ((rd_T38 y495 0).f3)) := hcc114 3 _ rfl; have hx114_4 : w118.cell? ⟨go112, (0 : Int).toNat * 8 + 4, none⟩ = some (.bool ((rd_T38 y495 0).f4)) := hcc114 4 _ rfl; have hx114_5 : w118.cell? ⟨go112, (0 : Int).toNat * 8 + 5, none⟩ = some (.bool ((rd_T38 y495 0).f5)) := hcc114 5 _ rfl; have hx114_6 : w118.cell? ⟨go112, (0 : Int).toNat * 8 + 6, none⟩ = some (.bool ((rd_T38 y495 0).f6)) := hcc114 6 _ rfl; have hx114_7 : w118.cell? ⟨go112, (0 : Int).toNat * 8 + 7, none⟩ = some (.int .i64 ((rd_T38 y495 0).f7)) := hcc114 7 _ rfl; have hf114_0 : w118.frozen? ⟨go112, (0 : Int).toNat * 8, none⟩ = false := hfr114 0; have hf114_1 : w118.frozen? ⟨go112, (0 : Int).toNat * 8 + 1, none⟩ = false := hfr114 1; have hf114_2 : w118.frozen? ⟨go112, (0 : Int).toNat * 8 + 2, none⟩ = false := hfr114 2; have hf114_3 : w118.frozen? ⟨go112, (0 : Int).toNat * 8 + 3, none⟩ = false := hfr114 3; have hf114_4 : w118.frozen? ⟨go112, (0 : Int).toNat * 8 + 4, none⟩ = false := hfr114 4; have hf114_5 : w118.frozen? ⟨go112, (0 : Int).toNat * 8 + 5, none⟩ = false := hfr114 5; have hf114_6 : w118.frozen? ⟨go112, (0 : Int).toNat * 8 + 6, none⟩ = false := hfr114 6; have hf114_7 : w118.frozen? ⟨go112, (0 : Int).toNat * 8 + 7, none⟩ = false := hfr114 7; clear hcl114 hcc114 hfr114 hM114; (try rw [show ((0 : Int)).toNat = 0 from rfl] at hx114_0); (try simp only [Nat.reduceMul, Nat.zero_mul, Nat.zero_add, Nat.reduceAdd] at hx114_0); (try rw [show ((0 : Int)).toNat = 0 from rfl] at hf114_0); (try simp only [Nat.reduceMul, Nat.zero_mul, Nat.zero_add, Nat.reduceAdd] at hf114_0); (try rw [show ((0 : Int)).toNat = 0 from rfl] at hx114_1); (try simp only [Nat.reduceMul, Nat.zero_mul, Nat.zero_add, Nat.reduceAdd] at hx114_1); (try rw [show ((0 : Int)).toNat = 0 from rfl] at hf114_1); (try simp only [Nat.reduceMul, Nat.zero_mul, Nat.zero_add, Nat.reduceAdd] at hf114_1); (try rw [show ((0 : Int)).toNat = 0 from rfl] at hx114_2); (try simp only [Nat.reduceMul, Nat.zero_mul, Nat.zero_add, Nat.reduceAdd] at hx114_2); (try rw [show ((0 : Int)).toNat = 0 from rfl] at hf114_2); (try simp only [Nat.reduceMul, Nat.zero_mul, Nat.zero_add, Nat.reduceAdd] at hf114_2); (try rw [show ((0 : Int)).toNat = 0 from rfl] at hx114_3); (try simp only [Nat.reduceMul, Nat.zero_mul, Nat.zero_add, Nat.reduceAdd] at hx114_3); (try rw [show ((0 : Int)).toNat = 0 from rfl] at hf114_3); (try simp only [Nat.reduceMul, Nat.zero_mul, Nat.zero_add, Nat.reduceAdd] at hf114_3); (try rw [show ((0 : Int)).toNat = 0 from rfl] at hx114_4); (try simp only [Nat.reduceMul, Nat.zero_mul, Nat.zero_add, Nat.reduceAdd] at hx114_4); (try rw [show ((0 : Int)).toNat = 0 from rfl] at hf114_4); (try simp only [Nat.reduceMul, Nat.zero_mul, Nat.zero_add, Nat.reduceAdd] at hf114_4); (try rw [show ((0 : Int)).toNat = 0 from rfl] at hx114_5); (try simp only [Nat.reduceMul, Nat.zero_mul, Nat.zero_add, Nat.reduceAdd] at hx114_5); (try rw [show ((0 : Int)).toNat = 0 from rfl] at hf114_5); (try simp only [Nat.reduceMul, Nat.zero_mul, Nat.zero_add, Nat.reduceAdd] at hf114_5); (try rw [show ((0 : Int)).toNat = 0 from rfl] at hx114_6); (try simp only [Nat.reduceMul, Nat.zero_mul, Nat.zero_add, Nat.reduceAdd] at hx114_6); (try rw [show ((0 : Int)).toNat = 0 from rfl] at hf114_6); (try simp only [Nat.reduceMul, Nat.zero_mul, Nat.zero_add, Nat.reduceAdd] at hf114_6); (try rw [show ((0 : Int)).toNat = 0 from rfl] at hx114_7); (try simp only [Nat.reduceMul, Nat.zero_mul, Nat.zero_add, Nat.reduceAdd] at hx114_7); (try rw [show ((0 : Int)).toNat = 0 from rfl] at hf114_7); (try simp only [Nat.reduceMul, Nat.zero_mul, Nat.zero_add, Nat.reduceAdd] at hf114_7); replace p114 := eq_true p114; replace q114 := eq_true q114; have HX119 := Aside0.mk (show Kd.S k38 38 w118 w.heap.size (fun k_ => ((fun _ => True)) k_ ∧ ¬ ((fun _ => False)) k_) (.slice (some ⟨go112, 0, none⟩) t466.length co112) y495 from (by (with_reducible repeat (first | apply Kd.S_alloc | apply Kd.S_drewN | apply Kd.S_drew)); exact Kd.S_mono HO468.out (fun k_ hk => ⟨trivial, fun e_ => e_⟩))); obtain ⟨oki119, ce119, hcl119, hM119, hcc119, hfr119, hoki119, hH119⟩ := Kd.S_elem HX119.out z38 (0 : Int) (by omega) (by have h_ : (0 : Int) < ((t466.length : Int) : Int) := of_decide_eq_true (by first | (with_reducible assumption) | assumption); first | exact h_ | (have e_ := (Kd.S_reads' HO468.out).1; omega) | simpa using h_); obtain ⟨ve119_2, rfl, ge119_2⟩ := k38_openM hM119; have HP119 := Kd.S_seg hH119 (by omega) (by have h_ : (0 : Int) < ((t466.length : Int) : Int) := of_decide_eq_true (by first | (with_reducible assumption) | assumption); first | exact h_ | (have e_ := (Kd.S_reads' HO468.out).1; omega) | simpa using h_) (seg := [.bool true]) (j := 6) (show 7 ≤ 8 from by decide) (x' := (⟨(rd_T38 y495 0).f0, (rd_T38 y495 0).f1, (rd_T38 y495 0).f2, (rd_T38 y495 0).f3, (rd_T38 y495 0).f4, (rd_T38 y495 0).f5, true, (rd_T38 y495 0).f7⟩ : S38)) (k38_mkM _ _ _ (⟨(rd_T38 y495 0).f0, (rd_T38 y495 0).f1, (rd_T38 y495 0).f2, (rd_T38 y495 0).f3, (rd_T38 y495 0).f4, (rd_T38 y495 0).f5, true, (rd_T38 y495 0).f7⟩ : S38) (Kd.R_mono ge119_2 (fun _ h_ => Or.inl h_))) (fun _ hk => hk) (fun k_ hk_ => hk_.elim); have hx119_6 := hcc119 6 _ rfl; (try simp only [show (k38).sz = 8 from rfl, Nat.mul_one, Nat.add_zero] at hx119_6); (try rw [show ((0 : Int)).toNat = 0 from rfl] at hx119_6); (try simp only [Nat.reduceMul, Nat.zero_mul, Nat.zero_add, Nat.reduceAdd] at hx119_6); have hf119_6 := hfr119 6; (try simp only [show (k38).sz = 8 from rfl, Nat.mul_one, Nat.add_zero] at hf119_6); (try rw [show ((0 : Int)).toNat = 0 from rfl] at hf119_6); (try simp only [Nat.reduceMul, Nat.zero_mul, Nat.zero_add, Nat.reduceAdd] at hf119_6); clear hcl119 hcc119 hfr119 hM119 hoki119 hH119) | ((with_reducible refine gate_store (t := 4) (p := 125) rfl ?_); refine store_event (t := 4) (p := 125) (v := ?vo_w120) (w1 := (w118.setCell ⟨go112, 6, none⟩ (.bool true))) ?hg ?ho ?hn ?hr ?_; (case ho => rfl); (case hg => rfl); (case hn => rfl); (case hr => first | (go_simp; done) | (go_simp; rfl)); intro w120 hw; have hg : w118.grownBy w120 (some go112) := (by rw [hw]; exact HP119.2); have hp_ : Kd.S k38 38 w120 w.heap.size (fun _ => True) (.slice (some ⟨go112, 0, none⟩) t466.length co112) y496 := (by rw [hw, Ny496.out]; exact HP119.1); clear HP119; have n0_ := Aside0.mk (hp_); have n1_ := Aside0.mk ((by rw [hw]; exact below_set (HB.out) GB112.out : Below w.heap.size w w120)); clear HO468; clear HB; have HO468 := n0_; have HB := n1_; clear n0_ n1_; clear hg hw hp_; have p115 : 0 ≤ (0 : Int) := (by omega); have q115 : (0 : Int) < ((t466.length : Int) : Int) := of_decide_eq_true (by first | (with_reducible assumption) | assumption); have qi115 : (0 < t466.length) = True := eq_true (by omega); obtain ⟨_, ce115, hcl115, hM115, hcc115, hfr115, _, _⟩ := Kd.S_elem HO468.out z38 (0 : Int) p115 q115; obtain ⟨ve115_2, rfl, ge115_2⟩ := k38_openM hM115; have hx115_0 : w120.cell? ⟨go112, (0 : Int).toNat * 8, none⟩ = some (.bool ((rd_T38 y496 0).f0)) := hcc115 0 _ rfl; have hx115_1 : w120.cell? ⟨go112, (0 : Int).toNat * 8 + 1, none⟩ = some (.int .i64 ((rd_T38 y496 0).f1)) := hcc115 1 _ rfl; have hx115_2 : w120.cell? ⟨go112, (0 : Int).toNat * 8 + 2, none⟩ = some (ve115_2) := hcc115 2 _ rfl; have hx115_3 : w120.cell? ⟨go112, (0 : Int).toNat * 8 + 3, none⟩ = some (.bool ((rd_T38 y496 0).f3)) := hcc115 3 _ rfl; have hx115_4 : w120.cell? ⟨go112, (0 : Int).toNat * 8 + 4, none⟩ = some (.bool ((rd_T38 y496 0).f4)) := hcc115 4 _ rfl; have hx115_5 : w120.cell? ⟨go112, (0 : Int).toNat * 8 + 5, none⟩ = some (.bool ((rd_T38 y496 0).f5)) := hcc115 5 _ rfl; have hx115_6 : w120.cell? ⟨go112, (0 : Int).toNat * 8 + 6, none⟩ = some (.bool ((rd_T38 y496 0).f6)) := hcc115 6 _ rfl; have hx115_7 : w120.cell? ⟨go112, (0 : Int).toNat * 8 + 7, none⟩ = some (.int .i64 ((rd_T38 y496 0).f7)) := hcc115 7 _ rfl; have hf115_0 : w120.frozen? ⟨go112, (0 : Int).toNat * 8, none⟩ = false := hfr115 0; have hf115_1 : w120.frozen? ⟨go112, (0 : Int).toNat * 8 + 1, none⟩ = false := hfr115 1; have hf115_2 : w120.frozen? ⟨go112, (0 : Int).toNat * 8 + 2, none⟩ = false := hfr115 2; have hf115_3 : w120.frozen? ⟨go112, (0 : Int).toNat * 8 + 3, none⟩ = false := hfr115 3; have hf115_4 : w120.frozen? ⟨go112, (0 : Int).toNat * 8 + 4, none⟩ = false := hfr115 4; have hf115_5 : w120.frozen? ⟨go112, (0 : Int).toNat * 8 + 5, none⟩ = false := hfr115 5; have hf115_6 : w120.frozen? ⟨go112, (0 : Int).toNat * 8 + 6, none⟩ = false := hfr115 6; have hf115_7 : w120.frozen? ⟨go112, (0 : Int).toNat * 8 + 7, none⟩ = false := hfr115 7; clear hcl115 hcc115 hfr115 hM115; (try rw [show ((0 : Int)).toNat = 0 from rfl] at hx115_0); (try simp only [Nat.reduceMul, Nat.zero_mul, Nat.zero_add, Nat.reduceAdd] at hx115_0); (try rw [show ((0 : Int)).toNat = 0 from rfl] at hf115_0); (try simp only [Nat.reduceMul, Nat.zero_mul, Nat.zero_add, Nat.reduceAdd] at hf115_0); (try rw [show ((0 : Int)).toNat = 0 from rfl] at hx115_1); (try simp only [Nat.reduceMul, Nat.zero_mul, Nat.zero_add, Nat.reduceAdd] at hx115_1); (try rw [show ((0 : Int)).toNat = 0 from rfl] at hf115_1); (try simp only [Nat.reduceMul, Nat.zero_mul, Nat.zero_add, Nat.reduceAdd] at hf115_1); (try rw [show ((0 : Int)).toNat = 0 from rfl] at hx115_2); (try simp only [Nat.reduceMul, Nat.zero_mul, Nat.zero_add, Nat.reduceAdd] at hx115_2); (try rw [show ((0 : Int)).toNat = 0 from rfl] at hf115_2); (try simp only [Nat.reduceMul, Nat.zero_mul, Nat.zero_add, Nat.reduceAdd] at hf115_2); (try rw [show ((0 : Int)).toNat = 0 from rfl] at hx115_3); (try simp only [Nat.reduceMul, Nat.zero_mul, Nat.zero_add, Nat.reduceAdd] at hx115_3); (try rw [show ((0 : Int)).toNat = 0 from rfl] at hf115_3); (try simp only [Nat.reduceMul, Nat.zero_mul, Nat.zero_add, Nat.reduceAdd] at hf115_3); (try rw [show ((0 : Int)).toNat = 0 from rfl] at hx115_4); (try simp only [Nat.reduceMul, Nat.zero_mul, Nat.zero_add, Nat.reduceAdd] at hx115_4); (try rw [show ((0 : Int)).toNat = 0 from rfl] at hf115_4); (try simp only [Nat.reduceMul, Nat.zero_mul, Nat.zero_add, Nat.reduceAdd] at hf115_4); (try rw [show ((0 : Int)).toNat = 0 from rfl] at hx115_5); (try simp only [Nat.reduceMul, Nat.zero_mul, Nat.zero_add, Nat.reduceAdd] at hx115_5); (try rw [show ((0 : Int)).toNat = 0 from rfl] at hf115_5); (try simp only [Nat.reduceMul, Nat.zero_mul, Nat.zero_add, Nat.reduceAdd] at hf115_5); (try rw [show ((0 : Int)).toNat = 0 from rfl] at hx115_6); (try simp only [Nat.reduceMul, Nat.zero_mul, Nat.zero_add, Nat.reduceAdd] at hx115_6); (try rw [show ((0 : Int)).toNat = 0 from rfl] at hf115_6); (try simp only [Nat.reduceMul, Nat.zero_mul, Nat.zero_add, Nat.reduceAdd] at hf115_6); (try rw [show ((0 : Int)).toNat = 0 from rfl] at hx115_7); (try simp only [Nat.reduceMul, Nat.zero_mul, Nat.zero_add, Nat.reduceAdd] at hx115_7); (try rw [show ((0 : Int)).toNat = 0 from rfl] at hf115_7); (try simp only [Nat.reduceMul, Nat.zero_mul, Nat.zero_add, Nat.reduceAdd] at hf115_7); replace p115 := eq_true p115; replace q115 := eq_true q115; have HX121 := Aside0.mk (show Kd.S k38 38 w120 w.heap.size (fun k_ => ((fun _ => True)) k_ ∧ ¬ ((fun _ => False)) k_) (.slice (some ⟨go112, 0, none⟩) t466.length co112) y496 from (by (with_reducible repeat (first | apply Kd.S_alloc | apply Kd.S_drewN | apply Kd.S_drew)); exact Kd.S_mono HO468.out (fun k_ hk => ⟨trivial, fun e_ => e_⟩))); obtain ⟨oki121, ce121, hcl121, hM121, hcc121, hfr121, hoki121, hH121⟩ := Kd.S_elem HX121.out z38 (0 : Int) (by omega) (by have h_ : (0 : Int) < ((t466.length : Int) : Int) := of_decide_eq_true (by first | (with_reducible assumption) | assumption); first | exact h_ | (have e_ := (Kd.S_reads' HO468.out).1; omega) | simpa using h_); obtain ⟨ve121_2, rfl, ge121_2⟩ := k38_openM hM121; have HP121 := Kd.S_seg hH121 (by omega) (by have h_ : (0 : Int) < ((t466.length : Int) : Int) := of_decide_eq_true (by first | (with_reducible assumption) | assumption); first | exact h_ | (have e_ := (Kd.S_reads' HO468.out).1; omega) | simpa using h_) (seg := [.bool true]) (j := 5) (show 6 ≤ 8 from by decide) (x' := (⟨(rd_T38 y496 0).f0, (rd_T38 y496 0).f1, (rd_T38 y496 0).f2, (rd_T38 y496 0).f3, (rd_T38 y496 0).f4, true, (rd_T38 y496 0).f6, (rd_T38 y496 0).f7⟩ : S38)) (k38_mkM _ _ _ (⟨(rd_T38 y496 0).f0, (rd_T38 y496 0).f1, (rd_T38 y496 0).f2, (rd_T38 y496 0).f3, (rd_T38 y496 0).f4, true, (rd_T38 y496 0).f6, (rd_T38 y496 0).f7⟩ : S38) (Kd.R_mono ge121_2 (fun _ h_ => Or.inl h_))) (fun _ hk => hk) (fun k_ hk_ => hk_.elim); have hx121_5 := hcc121 5 _ rfl; (try simp only [show (k38).sz = 8 from rfl, Nat.mul_one, Nat.add_zero] at hx121_5); (try rw [show ((0 : Int)).toNat = 0 from rfl] at hx121_5); (try simp only [Nat.reduceMul, Nat.zero_mul, Nat.zero_add, Nat.reduceAdd] at hx121_5); have hf121_5 := hfr121 5; (try simp only [show (k38).sz = 8 from rfl, Nat.mul_one, Nat.add_zero] at hf121_5); (try rw [show ((0 : Int)).toNat = 0 from rfl] at hf121_5); (try simp only [Nat.reduceMul, Nat.zero_mul, Nat.zero_add, Nat.reduceAdd] at hf121_5); clear hcl121 hcc121 hfr121 hM121 hoki121 hH121) | ((with_reducible refine gate_store (t := 4) (p := 128) rfl ?_); refine store_event (t := 4) (p := 128) (v := ?vo_w122) (w1 := (w120.setCell ⟨go112, 5, none⟩ (.bool true))) ?hg ?ho ?hn ?hr ?_; (case ho => rfl); (case hg => rfl); (case hn => rfl); (case hr => first | (go_simp; done) | (go_simp; rfl)); intro w122 hw; have hg : w120.grownBy w122 (some go112) := (by rw [hw]; exact HP121.2); have hp_ : Kd.S k38 38 w122 w.heap.size (fun _ => True) (.slice (some ⟨go112, 0, none⟩) t466.length co112) y497 := (by rw [hw, Ny497.out]; exact HP121.1); clear HP121; have n0_ := Aside0.mk (hp_); have n1_ := Aside0.mk ((by rw [hw]; exact below_set (HB.out) GB112.out : Below w.heap.size w w122)); clear HO468; clear HB; have HO468 := n0_; have HB := n1_; clear n0_ n1_; clear hg hw hp_; have p116 : 0 ≤ (0 : Int) := (by omega); have q116 : (0 : Int) < ((t466.length : Int) : Int) := of_decide_eq_true (by first | (with_reducible assumption) | assumption); have qi116 : (0 < t466.length) = True := eq_true (by omega); obtain ⟨_, ce116, hcl116, hM116, hcc116, hfr116, _, _⟩ := Kd.S_elem HO468.out z38 (0 : Int) p116 q116; obtain ⟨ve116_2, rfl, ge116_2⟩ := k38_openM hM116; have hx116_0 : w122.cell? ⟨go112, (0 : Int).toNat * 8, none⟩ = some (.bool ((rd_T38 y497 0).f0)) := hcc116 0 _ rfl; have hx116_1 : w122.cell? ⟨go112, (0 : Int).toNat * 8 + 1, none⟩ = some (.int .i64 ((rd_T38 y497 0).f1)) := hcc116 1 _ rfl; have hx116_2 : w122.cell? ⟨go112, (0 : Int).toNat * 8 + 2, none⟩ = some (ve116_2) := hcc116 2 _ rfl; have hx116_3 : w122.cell? ⟨go112, (0 : Int).toNat * 8 + 3, none⟩ = some (.bool ((rd_T38 y497 0).f3)) := hcc116 3 _ rfl; have hx116_4 : w122.cell? ⟨go112, (0 : Int).toNat * 8 + 4, none⟩ = some (.bool ((rd_T38 y497 0).f4)) := hcc116 4 _ rfl; have hx116_5 : w122.cell? ⟨go112, (0 : Int).toNat * 8 + 5, none⟩ = some (.bool ((rd_T38 y497 0).f5)) := hcc116 5 _ rfl; have hx116_6 : w122.cell? ⟨go112, (0 : Int).toNat * 8 + 6, none⟩ = some (.bool ((rd_T38 y497 0).f6)) := hcc116 6 _ rfl; have hx116_7 : w122.cell? ⟨go112, (0 : Int).toNat * 8 + 7, none⟩ = some (.int .i64 ((rd_T38 y497 0).f7)) := hcc116 7 _ rfl; have hf116_0 : w122.frozen? ⟨go112, (0 : Int).toNat * 8, none⟩ = false := hfr116 0; have hf116_1 : w122.frozen? ⟨go112, (0 : Int).toNat * 8 + 1, none⟩ = false := hfr116 1; have hf116_2 : w122.frozen? ⟨go112, (0 : Int).toNat * 8 + 2, none⟩ = false := hfr116 2; have hf116_3 : w122.frozen? ⟨go112, (0 : Int).toNat * 8 + 3, none⟩ = false := hfr116 3; have hf116_4 : w122.frozen? ⟨go112, (0 : Int).toNat * 8 + 4, none⟩ = false := hfr116 4; have hf116_5 : w122.frozen? ⟨go112, (0 : Int).toNat * 8 + 5, none⟩ = false := hfr116 5; have hf116_6 : w122.frozen? ⟨go112, (0 : Int).toNat * 8 + 6, none⟩ = false := hfr116 6; have hf116_7 : w122.frozen? ⟨go112, (0 : Int).toNat * 8 + 7, none⟩ = false := hfr116 7; clear hcl116 hcc116 hfr116 hM116; (try rw [show ((0 : Int)).toNat = 0 from rfl] at hx116_0); (try simp only [Nat.reduceMul, Nat.zero_mul, Nat.zero_add, Nat.reduceAdd] at hx116_0); (try rw [show ((0 : Int)).toNat = 0 from rfl] at hf116_0); (try simp only [Nat.reduceMul, Nat.zero_mul, Nat.zero_add, Nat.reduceAdd] at hf116_0); (try rw [show ((0 : Int)).toNat = 0 from rfl] at hx116_1); (try simp only [Nat.reduceMul, Nat.zero_mul, Nat.zero_add, Nat.reduceAdd] at hx116_1); (try rw [show ((0 : Int)).toNat = 0 from rfl] at hf116_1); (try simp only [Nat.reduceMul, Nat.zero_mul, Nat.zero_add, Nat.reduceAdd] at hf116_1); (try rw [show ((0 : Int)).toNat = 0 from rfl] at hx116_2); (try simp only [Nat.reduceMul, Nat.zero_mul, Nat.zero_add, Nat.reduceAdd] at hx116_2); (try rw [show ((0 : Int)).toNat = 0 from rfl] at hf116_2); (try simp only [Nat.reduceMul, Nat.zero_mul, Nat.zero_add, Nat.reduceAdd] at hf116_2); (try rw [show ((0 : Int)).toNat = 0 from rfl] at hx116_3); (try simp only [Nat.reduceMul, Nat.zero_mul, Nat.zero_add, Nat.reduceAdd] at hx116_3); (try rw [show ((0 : Int)).toNat = 0 from rfl] at hf116_3); (try simp only [Nat.reduceMul, Nat.zero_mul, Nat.zero_add, Nat.reduceAdd] at hf116_3); (try rw [show ((0 : Int)).toNat = 0 from rfl] at hx116_4); (try simp only [Nat.reduceMul, Nat.zero_mul, Nat.zero_add, Nat.reduceAdd] at hx116_4); (try rw [show ((0 : Int)).toNat = 0 from rfl] at hf116_4); (try simp only [Nat.reduceMul, Nat.zero_mul, Nat.zero_add, Nat.reduceAdd] at hf116_4); (try rw [show ((0 : Int)).toNat = 0 from rfl] at hx116_5); (try simp only [Nat.reduceMul, Nat.zero_mul, Nat.zero_add, Nat.reduceAdd] at hx116_5); (try rw [show ((0 : Int)).toNat = 0 from rfl] at hf116_5); (try simp only [Nat.reduceMul, Nat.zero_mul, Nat.zero_add, Nat.reduceAdd] at hf116_5); (try rw [show ((0 : Int)).toNat = 0 from rfl] at hx116_6); (try simp only [Nat.reduceMul, Nat.zero_mul, Nat.zero_add, Nat.reduceAdd] at hx116_6); (try rw [show ((0 : Int)).toNat = 0 from rfl] at hf116_6); (try simp only [Nat.reduceMul, Nat.zero_mul, Nat.zero_add, Nat.reduceAdd] at hf116_6); (try rw [show ((0 : Int)).toNat = 0 from rfl] at hx116_7); (try simp only [Nat.reduceMul, Nat.zero_mul, Nat.zero_add, Nat.reduceAdd] at hx116_7); (try rw [show ((0 : Int)).toNat = 0 from rfl] at hf116_7); (try simp only [Nat.reduceMul, Nat.zero_mul, Nat.zero_add, Nat.reduceAdd] at hf116_7); replace p116 := eq_true p116; replace q116 := eq_true q116; have HX123 := Aside0.mk (show Kd.S k38 38 w122 w.heap.size (fun k_ => ((fun _ => True)) k_ ∧ ¬ ((fun _ => False)) k_) (.slice (some ⟨go112, 0, none⟩) t466.length co112) y497 from (by (with_reducible repeat (first | apply Kd.S_alloc | apply Kd.S_drewN | apply Kd.S_drew)); exact Kd.S_mono HO468.out (fun k_ hk => ⟨trivial, fun e_ => e_⟩))); obtain ⟨oki123, ce123, hcl123, hM123, hcc123, hfr123, hoki123, hH123⟩ := Kd.S_elem HX123.out z38 (0 : Int) (by omega) (by have h_ : (0 : Int) < ((t466.length : Int) : Int) := of_decide_eq_true (by first | (with_reducible assumption) | assumption); first | exact h_ | (have e_ := (Kd.S_reads' HO468.out).1; omega) | simpa using h_); obtain ⟨ve123_2, rfl, ge123_2⟩ := k38_openM hM123; have HP123 := Kd.S_seg hH123 (by omega) (by have h_ : (0 : Int) < ((t466.length : Int) : Int) := of_decide_eq_true (by first | (with_reducible assumption) | assumption); first | exact h_ | (have e_ := (Kd.S_reads' HO468.out).1; omega) | simpa using h_) (seg := [.bool true]) (j := 4) (show 5 ≤ 8 from by decide) (x' := (⟨(rd_T38 y497 0).f0, (rd_T38 y497 0).f1, (rd_T38 y497 0).f2, (rd_T38 y497 0).f3, true, (rd_T38 y497 0).f5, (rd_T38 y497 0).f6, (rd_T38 y497 0).f7⟩ : S38)) (k38_mkM _ _ _ (⟨(rd_T38 y497 0).f0, (rd_T38 y497 0).f1, (rd_T38 y497 0).f2, (rd_T38 y497 0).f3, true, (rd_T38 y497 0).f5, (rd_T38 y497 0).f6, (rd_T38 y497 0).f7⟩ : S38) (Kd.R_mono ge123_2 (fun _ h_ => Or.inl h_))) (fun _ hk => hk) (fun k_ hk_ => hk_.elim); have hx123_4 := hcc123 4 _ rfl; (try simp only [show (k38).sz = 8 from rfl, Nat.mul_one, Nat.add_zero] at hx123_4); (try rw [show ((0 : Int)).toNat = 0 from rfl] at hx123_4); (try simp only [Nat.reduceMul, Nat.zero_mul, Nat.zero_add, Nat.reduceAdd] at hx123_4); have hf123_4 := hfr123 4; (try simp only [show (k38).sz = 8 from rfl, Nat.mul_one, Nat.add_zero] at hf123_4); (try rw [show ((0 : Int)).toNat = 0 from rfl] at hf123_4); (try simp only [Nat.reduceMul, Nat.zero_mul, Nat.zero_add, Nat.reduceAdd] at hf123_4); clear hcl123 hcc123 hfr123 hM123 hoki123 hH123) | ((with_reducible refine gate_store (t := 4) (p := 131) rfl ?_); refine store_event (t := 4) (p := 131) (v := ?vo_w124) (w1 := (w122.setCell ⟨go112, 4, none⟩ (.bool true))) ?hg ?ho ?hn ?hr ?_; (case ho => rfl); (case hg => rfl); (case hn => rfl); (case hr => first | (go_simp; done) | (go_simp; rfl)); intro w124 hw; have hg : w122.grownBy w124 (some go112) := (by rw [hw]; exact HP123.2); have hp_ : Kd.S k38 38 w124 w.heap.size (fun _ => True) (.slice (some ⟨go112, 0, none⟩) t466.length co112) y498 := (by rw [hw, Ny498.out]; exact HP123.1); clear HP123; have n0_ := Aside0.mk (hp_); have n1_ := Aside0.mk ((by rw [hw]; exact below_set (HB.out) GB112.out : Below w.heap.size w w124)); clear HO468; clear HB; have HO468 := n0_; have HB := n1_; clear n0_ n1_; clear hg hw hp_))
                                      subst hji109
                                      go_meet
                                      case rel => exact ⟨_, (y498), H', ⟨by first | omega | exact Nat.le_refl _⟩, ⟨by (with_reducible repeat (first | apply Kd.S_alloc | apply Kd.S_drewN | apply Kd.S_drew)); exact HO468.out⟩, ⟨by repeat (first | (with_reducible first | exact HB.out | apply below_alloc | apply pw_below_drewN | apply below_drew1) | exact HB.out)⟩⟩
                                    · rw [if_neg c113] at H
                                      exact absurd H (by simp)
                                  · rw [if_neg c111] at H
                                    exact absurd H (by simp)
                                · rw [if_neg c110] at H
                                  exact absurd H (by simp)
                              · rw [if_neg c108] at H
                                have c108b0 : ((Int.tmod a2 14) == 11) = false := beq_eq_false_iff_ne.mpr c108
                                have c108b1 : ((Int.tmod a2 14) != 11) = true := bne_iff_ne.mpr c108
                                by_cases c125 : (Int.tmod a2 14) = 12
                                · rw [if_pos c125] at H
                                  have c125b0 : ((Int.tmod a2 14) == 12) = true := beq_iff_eq.mpr c125
                                  have c125b1 : ((Int.tmod a2 14) != 12) = false := bne_eq_false_iff_eq.mpr c125
                                  clear c125
                                  obtain ⟨ji126, hji126⟩ : ∃ j_ : Int, (wrap64 (1 + (Int.tmod (wrap64 (a1)) (wrap64 ((wrap64 (2 + (wrap64 (Int.tmod a0 40)))) - 1))))) = j_ := ⟨_, rfl⟩
                                  replace H : (if 0 ≤ (ji126) then (if (ji126) < (t466.length : Int) then ((some (t466.set ((ji126) : Int).toNat (⟨(rd_T38 t466 (ji126)).f0, (rd_T38 t466 (ji126)).f1, (rd_T38 t466 (ji126)).f2, (rd_T38 t466 (ji126)).f3, (rd_T38 t466 (ji126)).f4, (rd_T38 t466 (ji126)).f5, (rd_T38 t466 (ji126)).f6, 2⟩ : S38) : List (S38))).bind fun y499 => (if 0 < (t466.length : Int) then (partitalaw10_TurnsErrors.j0 k true (y499.set (0 : Int).toNat (⟨(rd_T38 y499 0).f0, (rd_T38 y499 0).f1, (rd_T38 y499 0).f2, true, (rd_T38 y499 0).f4, (rd_T38 y499 0).f5, (rd_T38 y499 0).f6, (rd_T38 y499 0).f7⟩ : S38)) ji126) else (none))) else (none)) else (none)) = some r := by first | (rw [hji126] at H; exact H) | (simp only [hji126] at H ⊢; exact H)
                                  have hji126w : (IntKind.i64.wrap (1 + (Int.tmod (wrap64 (a1)) (wrap64 ((wrap64 (2 + (wrap64 (Int.tmod a0 40)))) - 1))))) = ji126 := (i64_w _).trans hji126
                                  by_cases c127 : 0 ≤ (ji126)
                                  · rw [if_pos c127] at H
                                    have c127b0 : decide (0 ≤ (ji126)) = true := decide_eq_true c127
                                    clear c127
                                    by_cases c128 : (ji126) < (t466.length : Int)
                                    · rw [if_pos c128] at H
                                      have c128b0 : decide ((ji126) < (t466.length : Int)) = true := decide_eq_true c128
                                      clear c128
                                      obtain ⟨y499, hy499⟩ : ∃ y_ : List (S38), y_ = (t466.set ((ji126) : Int).toNat (⟨(rd_T38 t466 (ji126)).f0, (rd_T38 t466 (ji126)).f1, (rd_T38 t466 (ji126)).f2, (rd_T38 t466 (ji126)).f3, (rd_T38 t466 (ji126)).f4, (rd_T38 t466 (ji126)).f5, (rd_T38 t466 (ji126)).f6, 2⟩ : S38)) := ⟨_, rfl⟩
                                      replace H : (if 0 < (t466.length : Int) then (partitalaw10_TurnsErrors.j0 k true (y499.set (0 : Int).toNat (⟨(rd_T38 y499 0).f0, (rd_T38 y499 0).f1, (rd_T38 y499 0).f2, true, (rd_T38 y499 0).f4, (rd_T38 y499 0).f5, (rd_T38 y499 0).f6, (rd_T38 y499 0).f7⟩ : S38)) ji126) else (none)) = some r := by first | (rw [hy499]; with_reducible exact H) | (have H2_ := (Option.bind_some _ _).symm.trans H; rw [hy499]; with_reducible exact H2_) | (have H2_ := (Option.bind_some _ _).symm.trans H; with_reducible exact H2_) | with_reducible exact H | (rw [hy499]; exact H) | exact H
                                      have Ny499 := Aside0.mk hy499
                                      clear hy499
                                      by_cases c130 : 0 < (t466.length : Int)
                                      · rw [if_pos c130] at H
                                        have c130b0 : decide (0 < (t466.length : Int)) = true := decide_eq_true c130
                                        have c130b1 : decide (0 < t466.length) = true := decide_eq_true (by omega)
                                        clear c130
                                        obtain ⟨y500, hy500⟩ : ∃ y_ : List (S38), y_ = (y499.set (0 : Int).toNat (⟨(rd_T38 y499 0).f0, (rd_T38 y499 0).f1, (rd_T38 y499 0).f2, true, (rd_T38 y499 0).f4, (rd_T38 y499 0).f5, (rd_T38 y499 0).f6, (rd_T38 y499 0).f7⟩ : S38)) := ⟨_, rfl⟩
                                        replace H : (partitalaw10_TurnsErrors.j0 k true y500 ji126) = some r := by first | (rw [hy500]; with_reducible exact H) | (have H2_ := (Option.bind_some _ _).symm.trans H; rw [hy500]; with_reducible exact H2_) | (have H2_ := (Option.bind_some _ _).symm.trans H; with_reducible exact H2_) | with_reducible exact H | (rw [hy500]; exact H) | exact H
                                        have Ny500 := Aside0.mk hy500
                                        clear hy500
                                        have H' := Aside0.mk H
                                        clear H
                                        have p129 : 0 ≤ ((ji126) : Int) := of_decide_eq_true (by first | (with_reducible assumption) | assumption)
                                        have q129 : ((ji126) : Int) < ((t466.length : Int) : Int) := of_decide_eq_true (by first | (with_reducible assumption) | assumption)
                                        obtain ⟨go129, co129, eo129, gb129, gl129, cl129, HG129⟩ := Kd.S_form HO468.out (by omega)
                                        (first | cases eo129 | (injection eo129 with ea_ en_ ec_; (first | subst ea_ | (injection ea_ with ea_; subst ea_)); subst ec_; clear en_))
                                        have GB129 := Aside0.mk gb129
                                        have GG129 := Aside0.mk HG129
                                        clear gb129 gl129 HG129
                                        obtain ⟨_, ce129, hcl129, hM129, hcc129, hfr129, _, _⟩ := Kd.S_elem HO468.out z38 ((ji126) : Int) p129 q129
                                        obtain ⟨ve129_2, rfl, ge129_2⟩ := k38_openM hM129
                                        have hx129_0 : w10.cell? ⟨go129, ((ji126) : Int).toNat * 8, none⟩ = some (.bool ((rd_T38 t466 (ji126)).f0)) := hcc129 0 _ rfl
                                        have hx129_1 : w10.cell? ⟨go129, ((ji126) : Int).toNat * 8 + 1, none⟩ = some (.int .i64 ((rd_T38 t466 (ji126)).f1)) := hcc129 1 _ rfl
                                        have hx129_2 : w10.cell? ⟨go129, ((ji126) : Int).toNat * 8 + 2, none⟩ = some (ve129_2) := hcc129 2 _ rfl
                                        have hx129_3 : w10.cell? ⟨go129, ((ji126) : Int).toNat * 8 + 3, none⟩ = some (.bool ((rd_T38 t466 (ji126)).f3)) := hcc129 3 _ rfl
                                        have hx129_4 : w10.cell? ⟨go129, ((ji126) : Int).toNat * 8 + 4, none⟩ = some (.bool ((rd_T38 t466 (ji126)).f4)) := hcc129 4 _ rfl
                                        have hx129_5 : w10.cell? ⟨go129, ((ji126) : Int).toNat * 8 + 5, none⟩ = some (.bool ((rd_T38 t466 (ji126)).f5)) := hcc129 5 _ rfl
                                        have hx129_6 : w10.cell? ⟨go129, ((ji126) : Int).toNat * 8 + 6, none⟩ = some (.bool ((rd_T38 t466 (ji126)).f6)) := hcc129 6 _ rfl
                                        have hx129_7 : w10.cell? ⟨go129, ((ji126) : Int).toNat * 8 + 7, none⟩ = some (.int .i64 ((rd_T38 t466 (ji126)).f7)) := hcc129 7 _ rfl
                                        have hf129_0 : w10.frozen? ⟨go129, ((ji126) : Int).toNat * 8, none⟩ = false := hfr129 0
                                        have hf129_1 : w10.frozen? ⟨go129, ((ji126) : Int).toNat * 8 + 1, none⟩ = false := hfr129 1
                                        have hf129_2 : w10.frozen? ⟨go129, ((ji126) : Int).toNat * 8 + 2, none⟩ = false := hfr129 2
                                        have hf129_3 : w10.frozen? ⟨go129, ((ji126) : Int).toNat * 8 + 3, none⟩ = false := hfr129 3
                                        have hf129_4 : w10.frozen? ⟨go129, ((ji126) : Int).toNat * 8 + 4, none⟩ = false := hfr129 4
                                        have hf129_5 : w10.frozen? ⟨go129, ((ji126) : Int).toNat * 8 + 5, none⟩ = false := hfr129 5
                                        have hf129_6 : w10.frozen? ⟨go129, ((ji126) : Int).toNat * 8 + 6, none⟩ = false := hfr129 6
                                        have hf129_7 : w10.frozen? ⟨go129, ((ji126) : Int).toNat * 8 + 7, none⟩ = false := hfr129 7
                                        clear hcl129 hcc129 hfr129 hM129
                                        replace p129 := eq_true p129
                                        replace q129 := eq_true q129
                                        have HX132 := Aside0.mk (show Kd.S k38 38 w10 w.heap.size (fun k_ => ((fun _ => True)) k_ ∧ ¬ ((fun _ => False)) k_) (.slice (some ⟨go129, 0, none⟩) t466.length co129) t466 from (by (with_reducible repeat (first | apply Kd.S_alloc | apply Kd.S_drewN | apply Kd.S_drew)); exact Kd.S_mono HO468.out (fun k_ hk => ⟨trivial, fun e_ => e_⟩)))
                                        obtain ⟨oki132, ce132, hcl132, hM132, hcc132, hfr132, hoki132, hH132⟩ := Kd.S_elem HX132.out z38 ((ji126) : Int) (of_decide_eq_true (by first | (with_reducible assumption) | assumption)) (by have h_ : ((ji126) : Int) < ((t466.length : Int) : Int) := of_decide_eq_true (by first | (with_reducible assumption) | assumption); first | exact h_ | (have e_ := (Kd.S_reads' HO468.out).1; omega) | simpa using h_)
                                        obtain ⟨ve132_2, rfl, ge132_2⟩ := k38_openM hM132
                                        have HP132 := Kd.S_seg hH132 (of_decide_eq_true (by first | (with_reducible assumption) | assumption)) (by have h_ : ((ji126) : Int) < ((t466.length : Int) : Int) := of_decide_eq_true (by first | (with_reducible assumption) | assumption); first | exact h_ | (have e_ := (Kd.S_reads' HO468.out).1; omega) | simpa using h_) (seg := [.int .i64 2]) (j := 7) (show 8 ≤ 8 from by decide) (x' := (⟨(rd_T38 t466 (ji126)).f0, (rd_T38 t466 (ji126)).f1, (rd_T38 t466 (ji126)).f2, (rd_T38 t466 (ji126)).f3, (rd_T38 t466 (ji126)).f4, (rd_T38 t466 (ji126)).f5, (rd_T38 t466 (ji126)).f6, 2⟩ : S38)) (k38_mkM _ _ _ (⟨(rd_T38 t466 (ji126)).f0, (rd_T38 t466 (ji126)).f1, (rd_T38 t466 (ji126)).f2, (rd_T38 t466 (ji126)).f3, (rd_T38 t466 (ji126)).f4, (rd_T38 t466 (ji126)).f5, (rd_T38 t466 (ji126)).f6, 2⟩ : S38) (Kd.R_mono ge132_2 (fun _ h_ => Or.inl h_))) (fun _ hk => hk) (fun k_ hk_ => hk_.elim)
                                        have hx132_7 := hcc132 7 _ rfl
                                        (try simp only [show (k38).sz = 8 from rfl, Nat.mul_one, Nat.add_zero] at hx132_7)
                                        have hf132_7 := hfr132 7
                                        (try simp only [show (k38).sz = 8 from rfl, Nat.mul_one, Nat.add_zero] at hf132_7)
                                        clear hcl132 hcc132 hfr132 hM132 hoki132 hH132
                                        go_wp2_with (first | ((with_reducible refine gate_store (t := 3) (p := 137) rfl ?_); refine store_event (t := 3) (p := 137) (v := ?vo_w133) (w1 := (w10.setCell ⟨go129, ((ji126) : Int).toNat * 8 + 7, none⟩ (.int .i64 2))) ?hg ?ho ?hn ?hr ?_; (case ho => rfl); (case hg => rfl); (case hn => rfl); (case hr => first | (go_simp; done) | (go_simp; rfl)); intro w133 hw; have hg : w10.grownBy w133 (some go129) := (by rw [hw]; exact HP132.2); have hp_ : Kd.S k38 38 w133 w.heap.size (fun _ => True) (.slice (some ⟨go129, 0, none⟩) t466.length co129) y499 := (by rw [hw, Ny499.out]; exact HP132.1); clear HP132; have n0_ := Aside0.mk (hp_); have n1_ := Aside0.mk ((by rw [hw]; exact below_set (HB.out) GB129.out : Below w.heap.size w w133)); clear HO468; clear HB; have HO468 := n0_; have HB := n1_; clear n0_ n1_; clear hg hw hp_; have p131 : 0 ≤ (0 : Int) := (by omega); have q131 : (0 : Int) < ((t466.length : Int) : Int) := of_decide_eq_true (by first | (with_reducible assumption) | assumption); have qi131 : (0 < t466.length) = True := eq_true (by omega); obtain ⟨_, ce131, hcl131, hM131, hcc131, hfr131, _, _⟩ := Kd.S_elem HO468.out z38 (0 : Int) p131 q131; obtain ⟨ve131_2, rfl, ge131_2⟩ := k38_openM hM131; have hx131_0 : w133.cell? ⟨go129, (0 : Int).toNat * 8, none⟩ = some (.bool ((rd_T38 y499 0).f0)) := hcc131 0 _ rfl; have hx131_1 : w133.cell? ⟨go129, (0 : Int).toNat * 8 + 1, none⟩ = some (.int .i64 ((rd_T38 y499 0).f1)) := hcc131 1 _ rfl; have hx131_2 : w133.cell? ⟨go129, (0 : Int).toNat * 8 + 2, none⟩ = some (ve131_2) := hcc131 2 _ rfl; have hx131_3 : w133.cell? ⟨go129, (0 : Int).toNat * 8 + 3, none⟩ = some (.bool ((rd_T38 y499 0).f3)) := hcc131 3 _ rfl; have hx131_4 : w133.cell? ⟨go129, (0 : Int).toNat * 8 + 4, none⟩ = some (.bool ((rd_T38 y499 0).f4)) := hcc131 4 _ rfl; have hx131_5 : w133.cell? ⟨go129, (0 : Int).toNat * 8 + 5, none⟩ = some (.bool ((rd_T38 y499 0).f5)) := hcc131 5 _ rfl; have hx131_6 : w133.cell? ⟨go129, (0 : Int).toNat * 8 + 6, none⟩ = some (.bool ((rd_T38 y499 0).f6)) := hcc131 6 _ rfl; have hx131_7 : w133.cell? ⟨go129, (0 : Int).toNat * 8 + 7, none⟩ = some (.int .i64 ((rd_T38 y499 0).f7)) := hcc131 7 _ rfl; have hf131_0 : w133.frozen? ⟨go129, (0 : Int).toNat * 8, none⟩ = false := hfr131 0; have hf131_1 : w133.frozen? ⟨go129, (0 : Int).toNat * 8 + 1, none⟩ = false := hfr131 1; have hf131_2 : w133.frozen? ⟨go129, (0 : Int).toNat * 8 + 2, none⟩ = false := hfr131 2; have hf131_3 : w133.frozen? ⟨go129, (0 : Int).toNat * 8 + 3, none⟩ = false := hfr131 3; have hf131_4 : w133.frozen? ⟨go129, (0 : Int).toNat * 8 + 4, none⟩ = false := hfr131 4; have hf131_5 : w133.frozen? ⟨go129, (0 : Int).toNat * 8 + 5, none⟩ = false := hfr131 5; have hf131_6 : w133.frozen? ⟨go129, (0 : Int).toNat * 8 + 6, none⟩ = false := hfr131 6; have hf131_7 : w133.frozen? ⟨go129, (0 : Int).toNat * 8 + 7, none⟩ = false := hfr131 7; clear hcl131 hcc131 hfr131 hM131; (try rw [show ((0 : Int)).toNat = 0 from rfl] at hx131_0); (try simp only [Nat.reduceMul, Nat.zero_mul, Nat.zero_add, Nat.reduceAdd] at hx131_0); (try rw [show ((0 : Int)).toNat = 0 from rfl] at hf131_0); (try simp only [Nat.reduceMul, Nat.zero_mul, Nat.zero_add, Nat.reduceAdd] at hf131_0); (try rw [show ((0 : Int)).toNat = 0 from rfl] at hx131_1); (try simp only [Nat.reduceMul, Nat.zero_mul, Nat.zero_add, Nat.reduceAdd] at hx131_1); (try rw [show ((0 : Int)).toNat = 0 from rfl] at hf131_1); (try simp only [Nat.reduceMul, Nat.zero_mul, Nat.zero_add, Nat.reduceAdd] at hf131_1); (try rw [show ((0 : Int)).toNat = 0 from rfl] at hx131_2); (try simp only [Nat.reduceMul, Nat.zero_mul, Nat.zero_add, Nat.reduceAdd] at hx131_2); (try rw [show ((0 : Int)).toNat = 0 from rfl] at hf131_2); (try simp only [Nat.reduceMul, Nat.zero_mul, Nat.zero_add, Nat.reduceAdd] at hf131_2); (try rw [show ((0 : Int)).toNat = 0 from rfl] at hx131_3); (try simp only [Nat.reduceMul, Nat.zero_mul, Nat.zero_add, Nat.reduceAdd] at hx131_3); (try rw [show ((0 : Int)).toNat = 0 from rfl] at hf131_3); (try simp only [Nat.reduceMul, Nat.zero_mul, Nat.zero_add, Nat.reduceAdd] at hf131_3); (try rw [show ((0 : Int)).toNat = 0 from rfl] at hx131_4); (try simp only [Nat.reduceMul, Nat.zero_mul, Nat.zero_add, Nat.reduceAdd] at hx131_4); (try rw [show ((0 : Int)).toNat = 0 from rfl] at hf131_4); (try simp only [Nat.reduceMul, Nat.zero_mul, Nat.zero_add, Nat.reduceAdd] at hf131_4); (try rw [show ((0 : Int)).toNat = 0 from rfl] at hx131_5); (try simp only [Nat.reduceMul, Nat.zero_mul, Nat.zero_add, Nat.reduceAdd] at hx131_5); (try rw [show ((0 : Int)).toNat = 0 from rfl] at hf131_5); (try simp only [Nat.reduceMul, Nat.zero_mul, Nat.zero_add, Nat.reduceAdd] at hf131_5); (try rw [show ((0 : Int)).toNat = 0 from rfl] at hx131_6); (try simp only [Nat.reduceMul, Nat.zero_mul, Nat.zero_add, Nat.reduceAdd] at hx131_6); (try rw [show ((0 : Int)).toNat = 0 from rfl] at hf131_6); (try simp only [Nat.reduceMul, Nat.zero_mul, Nat.zero_add, Nat.reduceAdd] at hf131_6); (try rw [show ((0 : Int)).toNat = 0 from rfl] at hx131_7); (try simp only [Nat.reduceMul, Nat.zero_mul, Nat.zero_add, Nat.reduceAdd] at hx131_7); (try rw [show ((0 : Int)).toNat = 0 from rfl] at hf131_7); (try simp only [Nat.reduceMul, Nat.zero_mul, Nat.zero_add, Nat.reduceAdd] at hf131_7); replace p131 := eq_true p131; replace q131 := eq_true q131; have HX134 := Aside0.mk (show Kd.S k38 38 w133 w.heap.size (fun k_ => ((fun _ => True)) k_ ∧ ¬ ((fun _ => False)) k_) (.slice (some ⟨go129, 0, none⟩) t466.length co129) y499 from (by (with_reducible repeat (first | apply Kd.S_alloc | apply Kd.S_drewN | apply Kd.S_drew)); exact Kd.S_mono HO468.out (fun k_ hk => ⟨trivial, fun e_ => e_⟩))); obtain ⟨oki134, ce134, hcl134, hM134, hcc134, hfr134, hoki134, hH134⟩ := Kd.S_elem HX134.out z38 (0 : Int) (by omega) (by have h_ : (0 : Int) < ((t466.length : Int) : Int) := of_decide_eq_true (by first | (with_reducible assumption) | assumption); first | exact h_ | (have e_ := (Kd.S_reads' HO468.out).1; omega) | simpa using h_); obtain ⟨ve134_2, rfl, ge134_2⟩ := k38_openM hM134; have HP134 := Kd.S_seg hH134 (by omega) (by have h_ : (0 : Int) < ((t466.length : Int) : Int) := of_decide_eq_true (by first | (with_reducible assumption) | assumption); first | exact h_ | (have e_ := (Kd.S_reads' HO468.out).1; omega) | simpa using h_) (seg := [.bool true]) (j := 3) (show 4 ≤ 8 from by decide) (x' := (⟨(rd_T38 y499 0).f0, (rd_T38 y499 0).f1, (rd_T38 y499 0).f2, true, (rd_T38 y499 0).f4, (rd_T38 y499 0).f5, (rd_T38 y499 0).f6, (rd_T38 y499 0).f7⟩ : S38)) (k38_mkM _ _ _ (⟨(rd_T38 y499 0).f0, (rd_T38 y499 0).f1, (rd_T38 y499 0).f2, true, (rd_T38 y499 0).f4, (rd_T38 y499 0).f5, (rd_T38 y499 0).f6, (rd_T38 y499 0).f7⟩ : S38) (Kd.R_mono ge134_2 (fun _ h_ => Or.inl h_))) (fun _ hk => hk) (fun k_ hk_ => hk_.elim); have hx134_3 := hcc134 3 _ rfl; (try simp only [show (k38).sz = 8 from rfl, Nat.mul_one, Nat.add_zero] at hx134_3); (try rw [show ((0 : Int)).toNat = 0 from rfl] at hx134_3); (try simp only [Nat.reduceMul, Nat.zero_mul, Nat.zero_add, Nat.reduceAdd] at hx134_3); have hf134_3 := hfr134 3; (try simp only [show (k38).sz = 8 from rfl, Nat.mul_one, Nat.add_zero] at hf134_3); (try rw [show ((0 : Int)).toNat = 0 from rfl] at hf134_3); (try simp only [Nat.reduceMul, Nat.zero_mul, Nat.zero_add, Nat.reduceAdd] at hf134_3); clear hcl134 hcc134 hfr134 hM134 hoki134 hH134) | ((with_reducible refine gate_store (t := 4) (p := 140) rfl ?_); refine store_event (t := 4) (p := 140) (v := ?vo_w135) (w1 := (w133.setCell ⟨go129, 3, none⟩ (.bool true))) ?hg ?ho ?hn ?hr ?_; (case ho => rfl); (case hg => rfl); (case hn => rfl); (case hr => first | (go_simp; done) | (go_simp; rfl)); intro w135 hw; have hg : w133.grownBy w135 (some go129) := (by rw [hw]; exact HP134.2); have hp_ : Kd.S k38 38 w135 w.heap.size (fun _ => True) (.slice (some ⟨go129, 0, none⟩) t466.length co129) y500 := (by rw [hw, Ny500.out]; exact HP134.1); clear HP134; have n0_ := Aside0.mk (hp_); have n1_ := Aside0.mk ((by rw [hw]; exact below_set (HB.out) GB129.out : Below w.heap.size w w135)); clear HO468; clear HB; have HO468 := n0_; have HB := n1_; clear n0_ n1_; clear hg hw hp_))
                                        subst hji126
                                        go_meet
                                        case rel => exact ⟨_, (y500), H', ⟨by first | omega | exact Nat.le_refl _⟩, ⟨by (with_reducible repeat (first | apply Kd.S_alloc | apply Kd.S_drewN | apply Kd.S_drew)); exact HO468.out⟩, ⟨by repeat (first | (with_reducible first | exact HB.out | apply below_alloc | apply pw_below_drewN | apply below_drew1) | exact HB.out)⟩⟩
                                      · rw [if_neg c130] at H
                                        exact absurd H (by simp)
                                    · rw [if_neg c128] at H
                                      exact absurd H (by simp)
                                  · rw [if_neg c127] at H
                                    exact absurd H (by simp)
                                · rw [if_neg c125] at H
                                  have c125b0 : ((Int.tmod a2 14) == 12) = false := beq_eq_false_iff_ne.mpr c125
                                  have c125b1 : ((Int.tmod a2 14) != 12) = true := bne_iff_ne.mpr c125
                                  by_cases c136 : (Int.tmod a2 14) = 13
                                  · rw [if_pos c136] at H
                                    have c136b0 : ((Int.tmod a2 14) == 13) = true := beq_iff_eq.mpr c136
                                    have c136b1 : ((Int.tmod a2 14) != 13) = false := bne_eq_false_iff_eq.mpr c136
                                    clear c136
                                    obtain ⟨ji137, hji137⟩ : ∃ j_ : Int, (wrap64 (1 + (Int.tmod (wrap64 (a1)) (wrap64 ((wrap64 (2 + (wrap64 (Int.tmod a0 40)))) - 1))))) = j_ := ⟨_, rfl⟩
                                    replace H : (if 0 ≤ (ji137) then (if (ji137) < (t466.length : Int) then ((some (t466.set ((ji137) : Int).toNat (⟨(rd_T38 t466 (ji137)).f0, (rd_T38 t466 (ji137)).f1, (rd_T38 t466 (ji137)).f2, (rd_T38 t466 (ji137)).f3, (rd_T38 t466 (ji137)).f4, (rd_T38 t466 (ji137)).f5, (rd_T38 t466 (ji137)).f6, 3⟩ : S38) : List (S38))).bind fun y501 => (if 0 < (t466.length : Int) then ((some (y501.set (0 : Int).toNat (⟨(rd_T38 y501 0).f0, (rd_T38 y501 0).f1, (rd_T38 y501 0).f2, (rd_T38 y501 0).f3, ((Int.tmod a1 2) == 0), (rd_T38 y501 0).f5, (rd_T38 y501 0).f6, (rd_T38 y501 0).f7⟩ : S38) : List (S38))).bind fun y502 => (partitalaw10_TurnsErrors.j0 k true (y502.set (0 : Int).toNat (⟨(rd_T38 y502 0).f0, (rd_T38 y502 0).f1, (rd_T38 y502 0).f2, (rd_T38 y502 0).f3, (rd_T38 y502 0).f4, ((Int.tmod a1 2) == 1), (rd_T38 y502 0).f6, (rd_T38 y502 0).f7⟩ : S38)) ji137)) else (none))) else (none)) else (none)) = some r := by first | (rw [hji137] at H; exact H) | (simp only [hji137] at H ⊢; exact H)
                                    have hji137w : (IntKind.i64.wrap (1 + (Int.tmod (wrap64 (a1)) (wrap64 ((wrap64 (2 + (wrap64 (Int.tmod a0 40)))) - 1))))) = ji137 := (i64_w _).trans hji137
                                    by_cases c138 : 0 ≤ (ji137)
                                    · rw [if_pos c138] at H
                                      have c138b0 : decide (0 ≤ (ji137)) = true := decide_eq_true c138
                                      clear c138
                                      by_cases c139 : (ji137) < (t466.length : Int)
                                      · rw [if_pos c139] at H
                                        have c139b0 : decide ((ji137) < (t466.length : Int)) = true := decide_eq_true c139
                                        clear c139
                                        obtain ⟨y501, hy501⟩ : ∃ y_ : List (S38), y_ = (t466.set ((ji137) : Int).toNat (⟨(rd_T38 t466 (ji137)).f0, (rd_T38 t466 (ji137)).f1, (rd_T38 t466 (ji137)).f2, (rd_T38 t466 (ji137)).f3, (rd_T38 t466 (ji137)).f4, (rd_T38 t466 (ji137)).f5, (rd_T38 t466 (ji137)).f6, 3⟩ : S38)) := ⟨_, rfl⟩
                                        replace H : (if 0 < (t466.length : Int) then ((some (y501.set (0 : Int).toNat (⟨(rd_T38 y501 0).f0, (rd_T38 y501 0).f1, (rd_T38 y501 0).f2, (rd_T38 y501 0).f3, ((Int.tmod a1 2) == 0), (rd_T38 y501 0).f5, (rd_T38 y501 0).f6, (rd_T38 y501 0).f7⟩ : S38) : List (S38))).bind fun y502 => (partitalaw10_TurnsErrors.j0 k true (y502.set (0 : Int).toNat (⟨(rd_T38 y502 0).f0, (rd_T38 y502 0).f1, (rd_T38 y502 0).f2, (rd_T38 y502 0).f3, (rd_T38 y502 0).f4, ((Int.tmod a1 2) == 1), (rd_T38 y502 0).f6, (rd_T38 y502 0).f7⟩ : S38)) ji137)) else (none)) = some r := by first | (rw [hy501]; with_reducible exact H) | (have H2_ := (Option.bind_some _ _).symm.trans H; rw [hy501]; with_reducible exact H2_) | (have H2_ := (Option.bind_some _ _).symm.trans H; with_reducible exact H2_) | with_reducible exact H | (rw [hy501]; exact H) | exact H
                                        have Ny501 := Aside0.mk hy501
                                        clear hy501
                                        by_cases c141 : 0 < (t466.length : Int)
                                        · rw [if_pos c141] at H
                                          have c141b0 : decide (0 < (t466.length : Int)) = true := decide_eq_true c141
                                          have c141b1 : decide (0 < t466.length) = true := decide_eq_true (by omega)
                                          clear c141
                                          obtain ⟨y502, hy502⟩ : ∃ y_ : List (S38), y_ = (y501.set (0 : Int).toNat (⟨(rd_T38 y501 0).f0, (rd_T38 y501 0).f1, (rd_T38 y501 0).f2, (rd_T38 y501 0).f3, ((Int.tmod a1 2) == 0), (rd_T38 y501 0).f5, (rd_T38 y501 0).f6, (rd_T38 y501 0).f7⟩ : S38)) := ⟨_, rfl⟩
                                          replace H : (partitalaw10_TurnsErrors.j0 k true (y502.set (0 : Int).toNat (⟨(rd_T38 y502 0).f0, (rd_T38 y502 0).f1, (rd_T38 y502 0).f2, (rd_T38 y502 0).f3, (rd_T38 y502 0).f4, ((Int.tmod a1 2) == 1), (rd_T38 y502 0).f6, (rd_T38 y502 0).f7⟩ : S38)) ji137) = some r := by first | (rw [hy502]; with_reducible exact H) | (have H2_ := (Option.bind_some _ _).symm.trans H; rw [hy502]; with_reducible exact H2_) | (have H2_ := (Option.bind_some _ _).symm.trans H; with_reducible exact H2_) | with_reducible exact H | (rw [hy502]; exact H) | exact H
                                          have Ny502 := Aside0.mk hy502
                                          clear hy502
                                          obtain ⟨y503, hy503⟩ : ∃ y_ : List (S38), y_ = (y502.set (0 : Int).toNat (⟨(rd_T38 y502 0).f0, (rd_T38 y502 0).f1, (rd_T38 y502 0).f2, (rd_T38 y502 0).f3, (rd_T38 y502 0).f4, ((Int.tmod a1 2) == 1), (rd_T38 y502 0).f6, (rd_T38 y502 0).f7⟩ : S38)) := ⟨_, rfl⟩
                                          replace H : (partitalaw10_TurnsErrors.j0 k true y503 ji137) = some r := by first | (rw [hy503]; with_reducible exact H) | (have H2_ := (Option.bind_some _ _).symm.trans H; rw [hy503]; with_reducible exact H2_) | (have H2_ := (Option.bind_some _ _).symm.trans H; with_reducible exact H2_) | with_reducible exact H | (rw [hy503]; exact H) | exact H
                                          have Ny503 := Aside0.mk hy503
                                          clear hy503
                                          have H' := Aside0.mk H
                                          clear H
                                          have p140 : 0 ≤ ((ji137) : Int) := of_decide_eq_true (by first | (with_reducible assumption) | assumption)
                                          have q140 : ((ji137) : Int) < ((t466.length : Int) : Int) := of_decide_eq_true (by first | (with_reducible assumption) | assumption)
                                          obtain ⟨go140, co140, eo140, gb140, gl140, cl140, HG140⟩ := Kd.S_form HO468.out (by omega)
                                          (first | cases eo140 | (injection eo140 with ea_ en_ ec_; (first | subst ea_ | (injection ea_ with ea_; subst ea_)); subst ec_; clear en_))
                                          have GB140 := Aside0.mk gb140
                                          have GG140 := Aside0.mk HG140
                                          clear gb140 gl140 HG140
                                          obtain ⟨_, ce140, hcl140, hM140, hcc140, hfr140, _, _⟩ := Kd.S_elem HO468.out z38 ((ji137) : Int) p140 q140
                                          obtain ⟨ve140_2, rfl, ge140_2⟩ := k38_openM hM140
                                          have hx140_0 : w10.cell? ⟨go140, ((ji137) : Int).toNat * 8, none⟩ = some (.bool ((rd_T38 t466 (ji137)).f0)) := hcc140 0 _ rfl
                                          have hx140_1 : w10.cell? ⟨go140, ((ji137) : Int).toNat * 8 + 1, none⟩ = some (.int .i64 ((rd_T38 t466 (ji137)).f1)) := hcc140 1 _ rfl
                                          have hx140_2 : w10.cell? ⟨go140, ((ji137) : Int).toNat * 8 + 2, none⟩ = some (ve140_2) := hcc140 2 _ rfl
                                          have hx140_3 : w10.cell? ⟨go140, ((ji137) : Int).toNat * 8 + 3, none⟩ = some (.bool ((rd_T38 t466 (ji137)).f3)) := hcc140 3 _ rfl
                                          have hx140_4 : w10.cell? ⟨go140, ((ji137) : Int).toNat * 8 + 4, none⟩ = some (.bool ((rd_T38 t466 (ji137)).f4)) := hcc140 4 _ rfl
                                          have hx140_5 : w10.cell? ⟨go140, ((ji137) : Int).toNat * 8 + 5, none⟩ = some (.bool ((rd_T38 t466 (ji137)).f5)) := hcc140 5 _ rfl
                                          have hx140_6 : w10.cell? ⟨go140, ((ji137) : Int).toNat * 8 + 6, none⟩ = some (.bool ((rd_T38 t466 (ji137)).f6)) := hcc140 6 _ rfl
                                          have hx140_7 : w10.cell? ⟨go140, ((ji137) : Int).toNat * 8 + 7, none⟩ = some (.int .i64 ((rd_T38 t466 (ji137)).f7)) := hcc140 7 _ rfl
                                          have hf140_0 : w10.frozen? ⟨go140, ((ji137) : Int).toNat * 8, none⟩ = false := hfr140 0
                                          have hf140_1 : w10.frozen? ⟨go140, ((ji137) : Int).toNat * 8 + 1, none⟩ = false := hfr140 1
                                          have hf140_2 : w10.frozen? ⟨go140, ((ji137) : Int).toNat * 8 + 2, none⟩ = false := hfr140 2
                                          have hf140_3 : w10.frozen? ⟨go140, ((ji137) : Int).toNat * 8 + 3, none⟩ = false := hfr140 3
                                          have hf140_4 : w10.frozen? ⟨go140, ((ji137) : Int).toNat * 8 + 4, none⟩ = false := hfr140 4
                                          have hf140_5 : w10.frozen? ⟨go140, ((ji137) : Int).toNat * 8 + 5, none⟩ = false := hfr140 5
                                          have hf140_6 : w10.frozen? ⟨go140, ((ji137) : Int).toNat * 8 + 6, none⟩ = false := hfr140 6
                                          have hf140_7 : w10.frozen? ⟨go140, ((ji137) : Int).toNat * 8 + 7, none⟩ = false := hfr140 7
                                          clear hcl140 hcc140 hfr140 hM140
                                          replace p140 := eq_true p140
                                          replace q140 := eq_true q140
                                          have HX144 := Aside0.mk (show Kd.S k38 38 w10 w.heap.size (fun k_ => ((fun _ => True)) k_ ∧ ¬ ((fun _ => False)) k_) (.slice (some ⟨go140, 0, none⟩) t466.length co140) t466 from (by (with_reducible repeat (first | apply Kd.S_alloc | apply Kd.S_drewN | apply Kd.S_drew)); exact Kd.S_mono HO468.out (fun k_ hk => ⟨trivial, fun e_ => e_⟩)))
                                          obtain ⟨oki144, ce144, hcl144, hM144, hcc144, hfr144, hoki144, hH144⟩ := Kd.S_elem HX144.out z38 ((ji137) : Int) (of_decide_eq_true (by first | (with_reducible assumption) | assumption)) (by have h_ : ((ji137) : Int) < ((t466.length : Int) : Int) := of_decide_eq_true (by first | (with_reducible assumption) | assumption); first | exact h_ | (have e_ := (Kd.S_reads' HO468.out).1; omega) | simpa using h_)
                                          obtain ⟨ve144_2, rfl, ge144_2⟩ := k38_openM hM144
                                          have HP144 := Kd.S_seg hH144 (of_decide_eq_true (by first | (with_reducible assumption) | assumption)) (by have h_ : ((ji137) : Int) < ((t466.length : Int) : Int) := of_decide_eq_true (by first | (with_reducible assumption) | assumption); first | exact h_ | (have e_ := (Kd.S_reads' HO468.out).1; omega) | simpa using h_) (seg := [.int .i64 3]) (j := 7) (show 8 ≤ 8 from by decide) (x' := (⟨(rd_T38 t466 (ji137)).f0, (rd_T38 t466 (ji137)).f1, (rd_T38 t466 (ji137)).f2, (rd_T38 t466 (ji137)).f3, (rd_T38 t466 (ji137)).f4, (rd_T38 t466 (ji137)).f5, (rd_T38 t466 (ji137)).f6, 3⟩ : S38)) (k38_mkM _ _ _ (⟨(rd_T38 t466 (ji137)).f0, (rd_T38 t466 (ji137)).f1, (rd_T38 t466 (ji137)).f2, (rd_T38 t466 (ji137)).f3, (rd_T38 t466 (ji137)).f4, (rd_T38 t466 (ji137)).f5, (rd_T38 t466 (ji137)).f6, 3⟩ : S38) (Kd.R_mono ge144_2 (fun _ h_ => Or.inl h_))) (fun _ hk => hk) (fun k_ hk_ => hk_.elim)
                                          have hx144_7 := hcc144 7 _ rfl
                                          (try simp only [show (k38).sz = 8 from rfl, Nat.mul_one, Nat.add_zero] at hx144_7)
                                          have hf144_7 := hfr144 7
                                          (try simp only [show (k38).sz = 8 from rfl, Nat.mul_one, Nat.add_zero] at hf144_7)
                                          clear hcl144 hcc144 hfr144 hM144 hoki144 hH144
                                          go_wp2_with (first | ((with_reducible refine gate_store (t := 3) (p := 146) rfl ?_); refine store_event (t := 3) (p := 146) (v := ?vo_w145) (w1 := (w10.setCell ⟨go140, ((ji137) : Int).toNat * 8 + 7, none⟩ (.int .i64 3))) ?hg ?ho ?hn ?hr ?_; (case ho => rfl); (case hg => rfl); (case hn => rfl); (case hr => first | (go_simp; done) | (go_simp; rfl)); intro w145 hw; have hg : w10.grownBy w145 (some go140) := (by rw [hw]; exact HP144.2); have hp_ : Kd.S k38 38 w145 w.heap.size (fun _ => True) (.slice (some ⟨go140, 0, none⟩) t466.length co140) y501 := (by rw [hw, Ny501.out]; exact HP144.1); clear HP144; have n0_ := Aside0.mk (hp_); have n1_ := Aside0.mk ((by rw [hw]; exact below_set (HB.out) GB140.out : Below w.heap.size w w145)); clear HO468; clear HB; have HO468 := n0_; have HB := n1_; clear n0_ n1_; clear hg hw hp_; have p142 : 0 ≤ (0 : Int) := (by omega); have q142 : (0 : Int) < ((t466.length : Int) : Int) := of_decide_eq_true (by first | (with_reducible assumption) | assumption); have qi142 : (0 < t466.length) = True := eq_true (by omega); obtain ⟨_, ce142, hcl142, hM142, hcc142, hfr142, _, _⟩ := Kd.S_elem HO468.out z38 (0 : Int) p142 q142; obtain ⟨ve142_2, rfl, ge142_2⟩ := k38_openM hM142; have hx142_0 : w145.cell? ⟨go140, (0 : Int).toNat * 8, none⟩ = some (.bool ((rd_T38 y501 0).f0)) := hcc142 0 _ rfl; have hx142_1 : w145.cell? ⟨go140, (0 : Int).toNat * 8 + 1, none⟩ = some (.int .i64 ((rd_T38 y501 0).f1)) := hcc142 1 _ rfl; have hx142_2 : w145.cell? ⟨go140, (0 : Int).toNat * 8 + 2, none⟩ = some (ve142_2) := hcc142 2 _ rfl; have hx142_3 : w145.cell? ⟨go140, (0 : Int).toNat * 8 + 3, none⟩ = some (.bool ((rd_T38 y501 0).f3)) := hcc142 3 _ rfl; have hx142_4 : w145.cell? ⟨go140, (0 : Int).toNat * 8 + 4, none⟩ = some (.bool ((rd_T38 y501 0).f4)) := hcc142 4 _ rfl; have hx142_5 : w145.cell? ⟨go140, (0 : Int).toNat * 8 + 5, none⟩ = some (.bool ((rd_T38 y501 0).f5)) := hcc142 5 _ rfl; have hx142_6 : w145.cell? ⟨go140, (0 : Int).toNat * 8 + 6, none⟩ = some (.bool ((rd_T38 y501 0).f6)) := hcc142 6 _ rfl; have hx142_7 : w145.cell? ⟨go140, (0 : Int).toNat * 8 + 7, none⟩ = some (.int .i64 ((rd_T38 y501 0).f7)) := hcc142 7 _ rfl; have hf142_0 : w145.frozen? ⟨go140, (0 : Int).toNat * 8, none⟩ = false := hfr142 0; have hf142_1 : w145.frozen? ⟨go140, (0 : Int).toNat * 8 + 1, none⟩ = false := hfr142 1; have hf142_2 : w145.frozen? ⟨go140, (0 : Int).toNat * 8 + 2, none⟩ = false := hfr142 2; have hf142_3 : w145.frozen? ⟨go140, (0 : Int).toNat * 8 + 3, none⟩ = false := hfr142 3; have hf142_4 : w145.frozen? ⟨go140, (0 : Int).toNat * 8 + 4, none⟩ = false := hfr142 4; have hf142_5 : w145.frozen? ⟨go140, (0 : Int).toNat * 8 + 5, none⟩ = false := hfr142 5; have hf142_6 : w145.frozen? ⟨go140, (0 : Int).toNat * 8 + 6, none⟩ = false := hfr142 6; have hf142_7 : w145.frozen? ⟨go140, (0 : Int).toNat * 8 + 7, none⟩ = false := hfr142 7; clear hcl142 hcc142 hfr142 hM142; (try rw [show ((0 : Int)).toNat = 0 from rfl] at hx142_0); (try simp only [Nat.reduceMul, Nat.zero_mul, Nat.zero_add, Nat.reduceAdd] at hx142_0); (try rw [show ((0 : Int)).toNat = 0 from rfl] at hf142_0); (try simp only [Nat.reduceMul, Nat.zero_mul, Nat.zero_add, Nat.reduceAdd] at hf142_0); (try rw [show ((0 : Int)).toNat = 0 from rfl] at hx142_1); (try simp only [Nat.reduceMul, Nat.zero_mul, Nat.zero_add, Nat.reduceAdd] at hx142_1); (try rw [show ((0 : Int)).toNat = 0 from rfl] at hf142_1); (try simp only [Nat.reduceMul, Nat.zero_mul, Nat.zero_add, Nat.reduceAdd] at hf142_1); (try rw [show ((0 : Int)).toNat = 0 from rfl] at hx142_2); (try simp only [Nat.reduceMul, Nat.zero_mul, Nat.zero_add, Nat.reduceAdd] at hx142_2); (try rw [show ((0 : Int)).toNat = 0 from rfl] at hf142_2); (try simp only [Nat.reduceMul, Nat.zero_mul, Nat.zero_add, Nat.reduceAdd] at hf142_2); (try rw [show ((0 : Int)).toNat = 0 from rfl] at hx142_3); (try simp only [Nat.reduceMul, Nat.zero_mul, Nat.zero_add, Nat.reduceAdd] at hx142_3); (try rw [show ((0 : Int)).toNat = 0 from rfl] at hf142_3); (try simp only [Nat.reduceMul, Nat.zero_mul, Nat.zero_add, Nat.reduceAdd] at hf142_3); (try rw [show ((0 : Int)).toNat = 0 from rfl] at hx142_4); (try simp only [Nat.reduceMul, Nat.zero_mul, Nat.zero_add, Nat.reduceAdd] at hx142_4); (try rw [show ((0 : Int)).toNat = 0 from rfl] at hf142_4); (try simp only [Nat.reduceMul, Nat.zero_mul, Nat.zero_add, Nat.reduceAdd] at hf142_4); (try rw [show ((0 : Int)).toNat = 0 from rfl] at hx142_5); (try simp only [Nat.reduceMul, Nat.zero_mul, Nat.zero_add, Nat.reduceAdd] at hx142_5); (try rw [show ((0 : Int)).toNat = 0 from rfl] at hf142_5); (try simp only [Nat.reduceMul, Nat.zero_mul, Nat.zero_add, Nat.reduceAdd] at hf142_5); (try rw [show ((0 : Int)).toNat = 0 from rfl] at hx142_6); (try simp only [Nat.reduceMul, Nat.zero_mul, Nat.zero_add, Nat.reduceAdd] at hx142_6); (try rw [show ((0 : Int)).toNat = 0 from rfl] at hf142_6); (try simp only [Nat.reduceMul, Nat.zero_mul, Nat.zero_add, Nat.reduceAdd] at hf142_6); (try rw [show ((0 : Int)).toNat = 0 from rfl] at hx142_7); (try simp only [Nat.reduceMul, Nat.zero_mul, Nat.zero_add, Nat.reduceAdd] at hx142_7); (try rw [show ((0 : Int)).toNat = 0 from rfl] at hf142_7); (try simp only [Nat.reduceMul, Nat.zero_mul, Nat.zero_add, Nat.reduceAdd] at hf142_7); replace p142 := eq_true p142; replace q142 := eq_true q142; have HX146 := Aside0.mk (show Kd.S k38 38 w145 w.heap.size (fun k_ => ((fun _ => True)) k_ ∧ ¬ ((fun _ => False)) k_) (.slice (some ⟨go140, 0, none⟩) t466.length co140) y501 from (by (with_reducible repeat (first | apply Kd.S_alloc | apply Kd.S_drewN | apply Kd.S_drew)); exact Kd.S_mono HO468.out (fun k_ hk => ⟨trivial, fun e_ => e_⟩))); obtain ⟨oki146, ce146, hcl146, hM146, hcc146, hfr146, hoki146, hH146⟩ := Kd.S_elem HX146.out z38 (0 : Int) (by omega) (by have h_ : (0 : Int) < ((t466.length : Int) : Int) := of_decide_eq_true (by first | (with_reducible assumption) | assumption); first | exact h_ | (have e_ := (Kd.S_reads' HO468.out).1; omega) | simpa using h_); obtain ⟨ve146_2, rfl, ge146_2⟩ := k38_openM hM146; have HP146 := Kd.S_seg hH146 (by omega) (by have h_ : (0 : Int) < ((t466.length : Int) : Int) := of_decide_eq_true (by first | (with_reducible assumption) | assumption); first | exact h_ | (have e_ := (Kd.S_reads' HO468.out).1; omega) | simpa using h_) (seg := [.bool ((Int.tmod a1 2) == 0)]) (j := 4) (show 5 ≤ 8 from by decide) (x' := (⟨(rd_T38 y501 0).f0, (rd_T38 y501 0).f1, (rd_T38 y501 0).f2, (rd_T38 y501 0).f3, ((Int.tmod a1 2) == 0), (rd_T38 y501 0).f5, (rd_T38 y501 0).f6, (rd_T38 y501 0).f7⟩ : S38)) (k38_mkM _ _ _ (⟨(rd_T38 y501 0).f0, (rd_T38 y501 0).f1, (rd_T38 y501 0).f2, (rd_T38 y501 0).f3, ((Int.tmod a1 2) == 0), (rd_T38 y501 0).f5, (rd_T38 y501 0).f6, (rd_T38 y501 0).f7⟩ : S38) (Kd.R_mono ge146_2 (fun _ h_ => Or.inl h_))) (fun _ hk => hk) (fun k_ hk_ => hk_.elim); have hx146_4 := hcc146 4 _ rfl; (try simp only [show (k38).sz = 8 from rfl, Nat.mul_one, Nat.add_zero] at hx146_4); (try rw [show ((0 : Int)).toNat = 0 from rfl] at hx146_4); (try simp only [Nat.reduceMul, Nat.zero_mul, Nat.zero_add, Nat.reduceAdd] at hx146_4); have hf146_4 := hfr146 4; (try simp only [show (k38).sz = 8 from rfl, Nat.mul_one, Nat.add_zero] at hf146_4); (try rw [show ((0 : Int)).toNat = 0 from rfl] at hf146_4); (try simp only [Nat.reduceMul, Nat.zero_mul, Nat.zero_add, Nat.reduceAdd] at hf146_4); clear hcl146 hcc146 hfr146 hM146 hoki146 hH146) | ((with_reducible refine gate_store (t := 4) (p := 152) rfl ?_); refine store_event (t := 4) (p := 152) (v := ?vo_w147) (w1 := (w145.setCell ⟨go140, 4, none⟩ (.bool ((Int.tmod a1 2) == 0)))) ?hg ?ho ?hn ?hr ?_; (case ho => rfl); (case hg => rfl); (case hn => rfl); (case hr => first | (go_simp; done) | (go_simp; rfl)); intro w147 hw; have hg : w145.grownBy w147 (some go140) := (by rw [hw]; exact HP146.2); have hp_ : Kd.S k38 38 w147 w.heap.size (fun _ => True) (.slice (some ⟨go140, 0, none⟩) t466.length co140) y502 := (by rw [hw, Ny502.out]; exact HP146.1); clear HP146; have n0_ := Aside0.mk (hp_); have n1_ := Aside0.mk ((by rw [hw]; exact below_set (HB.out) GB140.out : Below w.heap.size w w147)); clear HO468; clear HB; have HO468 := n0_; have HB := n1_; clear n0_ n1_; clear hg hw hp_; have p143 : 0 ≤ (0 : Int) := (by omega); have q143 : (0 : Int) < ((t466.length : Int) : Int) := of_decide_eq_true (by first | (with_reducible assumption) | assumption); have qi143 : (0 < t466.length) = True := eq_true (by omega); obtain ⟨_, ce143, hcl143, hM143, hcc143, hfr143, _, _⟩ := Kd.S_elem HO468.out z38 (0 : Int) p143 q143; obtain ⟨ve143_2, rfl, ge143_2⟩ := k38_openM hM143; have hx143_0 : w147.cell? ⟨go140, (0 : Int).toNat * 8, none⟩ = some (.bool ((rd_T38 y502 0).f0)) := hcc143 0 _ rfl; have hx143_1 : w147.cell? ⟨go140, (0 : Int).toNat * 8 + 1, none⟩ = some (.int .i64 ((rd_T38 y502 0).f1)) := hcc143 1 _ rfl; have hx143_2 : w147.cell? ⟨go140, (0 : Int).toNat * 8 + 2, none⟩ = some (ve143_2) := hcc143 2 _ rfl; have hx143_3 : w147.cell? ⟨go140, (0 : Int).toNat * 8 + 3, none⟩ = some (.bool ((rd_T38 y502 0).f3)) := hcc143 3 _ rfl; have hx143_4 : w147.cell? ⟨go140, (0 : Int).toNat * 8 + 4, none⟩ = some (.bool ((rd_T38 y502 0).f4)) := hcc143 4 _ rfl; have hx143_5 : w147.cell? ⟨go140, (0 : Int).toNat * 8 + 5, none⟩ = some (.bool ((rd_T38 y502 0).f5)) := hcc143 5 _ rfl; have hx143_6 : w147.cell? ⟨go140, (0 : Int).toNat * 8 + 6, none⟩ = some (.bool ((rd_T38 y502 0).f6)) := hcc143 6 _ rfl; have hx143_7 : w147.cell? ⟨go140, (0 : Int).toNat * 8 + 7, none⟩ = some (.int .i64 ((rd_T38 y502 0).f7)) := hcc143 7 _ rfl; have hf143_0 : w147.frozen? ⟨go140, (0 : Int).toNat * 8, none⟩ = false := hfr143 0; have hf143_1 : w147.frozen? ⟨go140, (0 : Int).toNat * 8 + 1, none⟩ = false := hfr143 1; have hf143_2 : w147.frozen? ⟨go140, (0 : Int).toNat * 8 + 2, none⟩ = false := hfr143 2; have hf143_3 : w147.frozen? ⟨go140, (0 : Int).toNat * 8 + 3, none⟩ = false := hfr143 3; have hf143_4 : w147.frozen? ⟨go140, (0 : Int).toNat * 8 + 4, none⟩ = false := hfr143 4; have hf143_5 : w147.frozen? ⟨go140, (0 : Int).toNat * 8 + 5, none⟩ = false := hfr143 5; have hf143_6 : w147.frozen? ⟨go140, (0 : Int).toNat * 8 + 6, none⟩ = false := hfr143 6; have hf143_7 : w147.frozen? ⟨go140, (0 : Int).toNat * 8 + 7, none⟩ = false := hfr143 7; clear hcl143 hcc143 hfr143 hM143; (try rw [show ((0 : Int)).toNat = 0 from rfl] at hx143_0); (try simp only [Nat.reduceMul, Nat.zero_mul, Nat.zero_add, Nat.reduceAdd] at hx143_0); (try rw [show ((0 : Int)).toNat = 0 from rfl] at hf143_0); (try simp only [Nat.reduceMul, Nat.zero_mul, Nat.zero_add, Nat.reduceAdd] at hf143_0); (try rw [show ((0 : Int)).toNat = 0 from rfl] at hx143_1); (try simp only [Nat.reduceMul, Nat.zero_mul, Nat.zero_add, Nat.reduceAdd] at hx143_1); (try rw [show ((0 : Int)).toNat = 0 from rfl] at hf143_1); (try simp only [Nat.reduceMul, Nat.zero_mul, Nat.zero_add, Nat.reduceAdd] at hf143_1); (try rw [show ((0 : Int)).toNat = 0 from rfl] at hx143_2); (try simp only [Nat.reduceMul, Nat.zero_mul, Nat.zero_add, Nat.reduceAdd] at hx143_2); (try rw [show ((0 : Int)).toNat = 0 from rfl] at hf143_2); (try simp only [Nat.reduceMul, Nat.zero_mul, Nat.zero_add, Nat.reduceAdd] at hf143_2); (try rw [show ((0 : Int)).toNat = 0 from rfl] at hx143_3); (try simp only [Nat.reduceMul, Nat.zero_mul, Nat.zero_add, Nat.reduceAdd] at hx143_3); (try rw [show ((0 : Int)).toNat = 0 from rfl] at hf143_3); (try simp only [Nat.reduceMul, Nat.zero_mul, Nat.zero_add, Nat.reduceAdd] at hf143_3); (try rw [show ((0 : Int)).toNat = 0 from rfl] at hx143_4); (try simp only [Nat.reduceMul, Nat.zero_mul, Nat.zero_add, Nat.reduceAdd] at hx143_4); (try rw [show ((0 : Int)).toNat = 0 from rfl] at hf143_4); (try simp only [Nat.reduceMul, Nat.zero_mul, Nat.zero_add, Nat.reduceAdd] at hf143_4); (try rw [show ((0 : Int)).toNat = 0 from rfl] at hx143_5); (try simp only [Nat.reduceMul, Nat.zero_mul, Nat.zero_add, Nat.reduceAdd] at hx143_5); (try rw [show ((0 : Int)).toNat = 0 from rfl] at hf143_5); (try simp only [Nat.reduceMul, Nat.zero_mul, Nat.zero_add, Nat.reduceAdd] at hf143_5); (try rw [show ((0 : Int)).toNat = 0 from rfl] at hx143_6); (try simp only [Nat.reduceMul, Nat.zero_mul, Nat.zero_add, Nat.reduceAdd] at hx143_6); (try rw [show ((0 : Int)).toNat = 0 from rfl] at hf143_6); (try simp only [Nat.reduceMul, Nat.zero_mul, Nat.zero_add, Nat.reduceAdd] at hf143_6); (try rw [show ((0 : Int)).toNat = 0 from rfl] at hx143_7); (try simp only [Nat.reduceMul, Nat.zero_mul, Nat.zero_add, Nat.reduceAdd] at hx143_7); (try rw [show ((0 : Int)).toNat = 0 from rfl] at hf143_7); (try simp only [Nat.reduceMul, Nat.zero_mul, Nat.zero_add, Nat.reduceAdd] at hf143_7); replace p143 := eq_true p143; replace q143 := eq_true q143; have HX148 := Aside0.mk (show Kd.S k38 38 w147 w.heap.size (fun k_ => ((fun _ => True)) k_ ∧ ¬ ((fun _ => False)) k_) (.slice (some ⟨go140, 0, none⟩) t466.length co140) y502 from (by (with_reducible repeat (first | apply Kd.S_alloc | apply Kd.S_drewN | apply Kd.S_drew)); exact Kd.S_mono HO468.out (fun k_ hk => ⟨trivial, fun e_ => e_⟩))); obtain ⟨oki148, ce148, hcl148, hM148, hcc148, hfr148, hoki148, hH148⟩ := Kd.S_elem HX148.out z38 (0 : Int) (by omega) (by have h_ : (0 : Int) < ((t466.length : Int) : Int) := of_decide_eq_true (by first | (with_reducible assumption) | assumption); first | exact h_ | (have e_ := (Kd.S_reads' HO468.out).1; omega) | simpa using h_); obtain ⟨ve148_2, rfl, ge148_2⟩ := k38_openM hM148; have HP148 := Kd.S_seg hH148 (by omega) (by have h_ : (0 : Int) < ((t466.length : Int) : Int) := of_decide_eq_true (by first | (with_reducible assumption) | assumption); first | exact h_ | (have e_ := (Kd.S_reads' HO468.out).1; omega) | simpa using h_) (seg := [.bool ((Int.tmod a1 2) == 1)]) (j := 5) (show 6 ≤ 8 from by decide) (x' := (⟨(rd_T38 y502 0).f0, (rd_T38 y502 0).f1, (rd_T38 y502 0).f2, (rd_T38 y502 0).f3, (rd_T38 y502 0).f4, ((Int.tmod a1 2) == 1), (rd_T38 y502 0).f6, (rd_T38 y502 0).f7⟩ : S38)) (k38_mkM _ _ _ (⟨(rd_T38 y502 0).f0, (rd_T38 y502 0).f1, (rd_T38 y502 0).f2, (rd_T38 y502 0).f3, (rd_T38 y502 0).f4, ((Int.tmod a1 2) == 1), (rd_T38 y502 0).f6, (rd_T38 y502 0).f7⟩ : S38) (Kd.R_mono ge148_2 (fun _ h_ => Or.inl h_))) (fun _ hk => hk) (fun k_ hk_ => hk_.elim); have hx148_5 := hcc148 5 _ rfl; (try simp only [show (k38).sz = 8 from rfl, Nat.mul_one, Nat.add_zero] at hx148_5); (try rw [show ((0 : Int)).toNat = 0 from rfl] at hx148_5); (try simp only [Nat.reduceMul, Nat.zero_mul, Nat.zero_add, Nat.reduceAdd] at hx148_5); have hf148_5 := hfr148 5; (try simp only [show (k38).sz = 8 from rfl, Nat.mul_one, Nat.add_zero] at hf148_5); (try rw [show ((0 : Int)).toNat = 0 from rfl] at hf148_5); (try simp only [Nat.reduceMul, Nat.zero_mul, Nat.zero_add, Nat.reduceAdd] at hf148_5); clear hcl148 hcc148 hfr148 hM148 hoki148 hH148) | ((with_reducible refine gate_store (t := 4) (p := 158) rfl ?_); refine store_event (t := 4) (p := 158) (v := ?vo_w149) (w1 := (w147.setCell ⟨go140, 5, none⟩ (.bool ((Int.tmod a1 2) == 1)))) ?hg ?ho ?hn ?hr ?_; (case ho => rfl); (case hg => rfl); (case hn => rfl); (case hr => first | (go_simp; done) | (go_simp; rfl)); intro w149 hw; have hg : w147.grownBy w149 (some go140) := (by rw [hw]; exact HP148.2); have hp_ : Kd.S k38 38 w149 w.heap.size (fun _ => True) (.slice (some ⟨go140, 0, none⟩) t466.length co140) y503 := (by rw [hw, Ny503.out]; exact HP148.1); clear HP148; have n0_ := Aside0.mk (hp_); have n1_ := Aside0.mk ((by rw [hw]; exact below_set (HB.out) GB140.out : Below w.heap.size w w149)); clear HO468; clear HB; have HO468 := n0_; have HB := n1_; clear n0_ n1_; clear hg hw hp_))
                                          subst hji137
                                          go_meet
                                          case rel => exact ⟨_, (y503), H', ⟨by first | omega | exact Nat.le_refl _⟩, ⟨by (with_reducible repeat (first | apply Kd.S_alloc | apply Kd.S_drewN | apply Kd.S_drew)); exact HO468.out⟩, ⟨by repeat (first | (with_reducible first | exact HB.out | apply below_alloc | apply pw_below_drewN | apply below_drew1) | exact HB.out)⟩⟩
                                        · rw [if_neg c141] at H
                                          exact absurd H (by simp)
                                      · rw [if_neg c139] at H
                                        exact absurd H (by simp)
                                    · rw [if_neg c138] at H
                                      exact absurd H (by simp)
                                  · rw [if_neg c136] at H
                                    have c136b0 : ((Int.tmod a2 14) == 13) = false := beq_eq_false_iff_ne.mpr c136
                                    have c136b1 : ((Int.tmod a2 14) != 13) = true := bne_iff_ne.mpr c136
                                    have H' := Aside0.mk H
                                    clear H
                                    go_wp2
                                    go_meet
                                    case rel => exact ⟨_, (t466), H', ⟨by first | omega | exact Nat.le_refl _⟩, ⟨by (with_reducible repeat (first | apply Kd.S_alloc | apply Kd.S_drewN | apply Kd.S_drew)); exact HO468.out⟩, ⟨by repeat (first | (with_reducible first | exact HB.out | apply below_alloc | apply pw_below_drewN | apply below_drew1) | exact HB.out)⟩⟩
      case rest =>
        clear HC8
        try clear c1
        try clear p1
        try clear q1
        try clear hx1
        try clear qi1
        try clear p2
        try clear p6
        try clear c7
        try clear p7
        try clear q7
        try clear hx7
        try clear qi7
        try clear hf7
        try clear c8
        try clear p8
        try clear q8
        try clear hx8
        try clear qi8
        try clear hf8
        try clear c9
        try clear p9
        try clear q9
        try clear hx9
        try clear qi9
        try clear hf9
        try clear c10
        try clear p10
        try clear q10
        try clear hx10
        try clear hf10
        try clear c11
        try clear p11
        try clear q11
        try clear hx11
        try clear qi11
        try clear hf11
        try clear c12
        try clear p12
        try clear q12
        try clear hx12
        try clear hf12
        try clear c13
        try clear p13
        try clear q13
        try clear hx13
        try clear qi13
        try clear hf13
        try clear c14
        try clear p14
        try clear q14
        try clear hx14
        try clear qi14
        try clear hf14
        try clear p64
        try clear c75
        try clear c75b0
        try clear c75b1
        try clear c76
        try clear c77
        try clear p77
        try clear q77
        try clear hx77
        try clear qi77
        try clear hf77
        try clear c79
        try clear c79b0
        try clear c80
        try clear c80b0
        try clear c81
        try clear p81
        try clear q81
        try clear hx81
        try clear hf81
        try clear c82
        try clear hx82
        try clear hf82
        try clear c84
        try clear hx84
        try clear hf84
        try clear c86
        try clear c86b0
        try clear c86b1
        try clear c87
        try clear c87b0
        try clear c87b1
        try clear c88
        try clear p88
        try clear q88
        try clear hx88
        try clear qi88
        try clear hf88
        try clear c90
        try clear c90b0
        try clear c91
        try clear c91b0
        try clear c92
        try clear p92
        try clear q92
        try clear hx92
        try clear hf92
        try clear c93
        try clear hx93
        try clear hf93
        try clear c95
        try clear hx95
        try clear hf95
        try clear c97
        try clear c97b0
        try clear c97b1
        try clear c98
        try clear c98b0
        try clear c98b1
        try clear c99
        try clear p99
        try clear q99
        try clear hx99
        try clear qi99
        try clear hf99
        try clear c101
        try clear c101b0
        try clear c102
        try clear c102b0
        try clear c103
        try clear p103
        try clear q103
        try clear hx103
        try clear hf103
        try clear c104
        try clear hx104
        try clear hf104
        try clear c106
        try clear hx106
        try clear hf106
        try clear c108
        try clear c108b0
        try clear c108b1
        try clear c110
        try clear c110b0
        try clear c111
        try clear c111b0
        try clear c112
        try clear p112
        try clear q112
        try clear hx112
        try clear hf112
        try clear c113
        try clear c113b0
        try clear c113b1
        try clear c114
        try clear p114
        try clear q114
        try clear hx114
        try clear qi114
        try clear hf114
        try clear c115
        try clear p115
        try clear q115
        try clear hx115
        try clear qi115
        try clear hf115
        try clear c116
        try clear p116
        try clear q116
        try clear hx116
        try clear qi116
        try clear hf116
        try clear c117
        try clear hx117
        try clear hf117
        try clear c119
        try clear hx119
        try clear hf119
        try clear c121
        try clear hx121
        try clear hf121
        try clear c123
        try clear hx123
        try clear hf123
        try clear c125
        try clear c125b0
        try clear c125b1
        try clear c127
        try clear c127b0
        try clear c128
        try clear c128b0
        try clear c129
        try clear p129
        try clear q129
        try clear hx129
        try clear hf129
        try clear c130
        try clear c130b0
        try clear c130b1
        try clear c131
        try clear p131
        try clear q131
        try clear hx131
        try clear qi131
        try clear hf131
        try clear c132
        try clear hx132
        try clear hf132
        try clear c134
        try clear hx134
        try clear hf134
        try clear c136
        try clear c136b0
        try clear c136b1
        try clear c138
        try clear c138b0
        try clear c139
        try clear c139b0
        try clear c140
        try clear p140
        try clear q140
        try clear hx140
        try clear hf140
        try clear c141
        try clear c141b0
        try clear c141b1
        try clear c142
        try clear p142
        try clear q142
        try clear hx142
        try clear qi142
        try clear hf142
        try clear c143
        try clear p143
        try clear q143
        try clear hx143
        try clear qi143
        try clear hf143
        try clear c144
        try clear hx144
        try clear hf144
        try clear c146
        try clear hx146
        try clear hf146
        try clear c148
        try clear hx148
        try clear hf148
        try clear hx103_0
        try clear hx103_1
        try clear hx103_2
        try clear hx103_3
        try clear hx103_4
        try clear hx103_5
        try clear hx103_6
        try clear hx103_7
        try clear hx104_7
        try clear hx106_7
        try clear hx112_0
        try clear hx112_1
        try clear hx112_2
        try clear hx112_3
        try clear hx112_4
        try clear hx112_5
        try clear hx112_6
        try clear hx112_7
        try clear hx114_0
        try clear hx114_1
        try clear hx114_2
        try clear hx114_3
        try clear hx114_4
        try clear hx114_5
        try clear hx114_6
        try clear hx114_7
        try clear hx115_0
        try clear hx115_1
        try clear hx115_2
        try clear hx115_3
        try clear hx115_4
        try clear hx115_5
        try clear hx115_6
        try clear hx115_7
        try clear hx116_0
        try clear hx116_1
        try clear hx116_2
        try clear hx116_3
        try clear hx116_4
        try clear hx116_5
        try clear hx116_6
        try clear hx116_7
        try clear hx117_7
        try clear hx119_6
        try clear hx121_5
        try clear hx123_4
        try clear hx129_0
        try clear hx129_1
        try clear hx129_2
        try clear hx129_3
        try clear hx129_4
        try clear hx129_5
        try clear hx129_6
        try clear hx129_7
        try clear hx131_0
        try clear hx131_1
        try clear hx131_2
        try clear hx131_3
        try clear hx131_4
        try clear hx131_5
        try clear hx131_6
        try clear hx131_7
        try clear hx132_7
        try clear hx134_3
        try clear hx140_0
        try clear hx140_1
        try clear hx140_2
        try clear hx140_3
        try clear hx140_4
        try clear hx140_5
        try clear hx140_6
        try clear hx140_7
        try clear hx142_0
        try clear hx142_1
        try clear hx142_2
        try clear hx142_3
        try clear hx142_4
        try clear hx142_5
        try clear hx142_6
        try clear hx142_7
        try clear hx143_0
        try clear hx143_1
        try clear hx143_2
        try clear hx143_3
        try clear hx143_4
        try clear hx143_5
        try clear hx143_6
        try clear hx143_7
        try clear hx144_7
        try clear hx146_4
        try clear hx148_5
        try clear hx77_0
        try clear hx77_1
        try clear hx77_2
        try clear hx77_3
        try clear hx77_4
        try clear hx77_5
        try clear hx77_6
        try clear hx77_7
        try clear hx81_0
        try clear hx81_1
        try clear hx81_2
        try clear hx81_3
        try clear hx81_4
        try clear hx81_5
        try clear hx81_6
        try clear hx81_7
        try clear hx82_3
        try clear hx84_3
        try clear hx88_0
        try clear hx88_1
        try clear hx88_2
        try clear hx88_3
        try clear hx88_4
        try clear hx88_5
        try clear hx88_6
        try clear hx88_7
        try clear hx92_0
        try clear hx92_1
        try clear hx92_2
        try clear hx92_3
        try clear hx92_4
        try clear hx92_5
        try clear hx92_6
        try clear hx92_7
        try clear hx93_4
        try clear hx95_4
        try clear hx99_0
        try clear hx99_1
        try clear hx99_2
        try clear hx99_3
        try clear hx99_4
        try clear hx99_5
        try clear hx99_6
        try clear hx99_7
        try clear p103
        try clear p112
        try clear p114
        try clear p115
        try clear p116
        try clear p129
        try clear p131
        try clear p140
        try clear p142
        try clear p143
        try clear p77
        try clear p81
        try clear p88
        try clear p92
        try clear p99
        try clear q103
        try clear q112
        try clear q114
        try clear q115
        try clear q116
        try clear q129
        try clear q131
        try clear q140
        try clear q142
        try clear q143
        try clear q77
        try clear q81
        try clear q88
        try clear q92
        try clear q99
        obtain ⟨kq, x9_7, HA, HJ7, HO_9, HB⟩ := hcut
        cases kq with
        | zero => exact absurd HA.out (by simp [partitalaw10_TurnsErrors.j0])
        | succ kj7 =>
          have H := HA.out
          clear HA
          simp only [partitalaw10_TurnsErrors.j0] at H
          replace H := Option.bind_eq_some_iff.mp H
          obtain ⟨⟨t504, t505⟩, A1500, H⟩ := H
          replace H : ((turns_Unfold.f kj7 x9_7).bind fun bt506 => ((turns_Passes.f kj7 x9_7).bind fun bt510 => (if true = true then (if t504 = (wrap64 (1 + (Int.tmod (wrap64 (a1)) (wrap64 ((wrap64 (2 + (wrap64 (Int.tmod a0 40)))) - 1))))) then (if t505 = 100 then (if bt506.2 = 100 then (if bt510.2 = 100 then (some ((wrap64 ((bt506.1.length : Int) + (bt510.1.length : Int))) == 0)) else (some false)) else (some false)) else (some false)) else (some false)) else (some false)))) = some r := H
          have A150 := Aside0.mk A1500
          clear A1500
          replace H := Option.bind_eq_some_iff.mp H
          obtain ⟨⟨t506, t507⟩, A1510, H⟩ := H
          replace H : ((turns_Passes.f kj7 x9_7).bind fun bt510 => (if true = true then (if t504 = (wrap64 (1 + (Int.tmod (wrap64 (a1)) (wrap64 ((wrap64 (2 + (wrap64 (Int.tmod a0 40)))) - 1))))) then (if t505 = 100 then (if t507 = 100 then (if bt510.2 = 100 then (some ((wrap64 ((t506.length : Int) + (bt510.1.length : Int))) == 0)) else (some false)) else (some false)) else (some false)) else (some false)) else (some false))) = some r := H
          have A151 := Aside0.mk A1510
          clear A1510
          replace H := Option.bind_eq_some_iff.mp H
          obtain ⟨⟨t510, t511⟩, A1520, H⟩ := H
          replace H : (if true = true then (if t504 = (wrap64 (1 + (Int.tmod (wrap64 (a1)) (wrap64 ((wrap64 (2 + (wrap64 (Int.tmod a0 40)))) - 1))))) then (if t505 = 100 then (if t507 = 100 then (if t511 = 100 then (some ((wrap64 ((t506.length : Int) + (t510.length : Int))) == 0)) else (some false)) else (some false)) else (some false)) else (some false)) else (some false)) = some r := H
          have A152 := Aside0.mk A1520
          clear A1520
          by_cases c153 : true = true
          · clear c153
            have H1 : (if t504 = (wrap64 (1 + (Int.tmod (wrap64 (a1)) (wrap64 ((wrap64 (2 + (wrap64 (Int.tmod a0 40)))) - 1))))) then (if t505 = 100 then (if t507 = 100 then (if t511 = 100 then (some ((wrap64 ((t506.length : Int) + (t510.length : Int))) == 0)) else (some false)) else (some false)) else (some false)) else (some false)) = some r := by first | (rw [if_pos rfl] at H; exact H) | (rw [if_pos trivial] at H; exact H)
            clear H
            have H := H1
            clear H1
            by_cases c154 : t504 = (wrap64 (1 + (Int.tmod (wrap64 (a1)) (wrap64 ((wrap64 (2 + (wrap64 (Int.tmod a0 40)))) - 1)))))
            · rw [if_pos c154] at H
              have c154b0 : (t504 == (wrap64 (1 + (Int.tmod (wrap64 (a1)) (wrap64 ((wrap64 (2 + (wrap64 (Int.tmod a0 40)))) - 1)))))) = true := beq_iff_eq.mpr c154
              have c154b1 : (t504 != (wrap64 (1 + (Int.tmod (wrap64 (a1)) (wrap64 ((wrap64 (2 + (wrap64 (Int.tmod a0 40)))) - 1)))))) = false := bne_eq_false_iff_eq.mpr c154
              clear c154
              by_cases c155 : t505 = 100
              · rw [if_pos c155] at H
                have c155b0 : (t505 == 100) = true := beq_iff_eq.mpr c155
                have c155b1 : (t505 != 100) = false := bne_eq_false_iff_eq.mpr c155
                clear c155
                by_cases c156 : t507 = 100
                · rw [if_pos c156] at H
                  have c156b0 : (t507 == 100) = true := beq_iff_eq.mpr c156
                  have c156b1 : (t507 != 100) = false := bne_eq_false_iff_eq.mpr c156
                  clear c156
                  by_cases c157 : t511 = 100
                  · rw [if_pos c157] at H
                    have c157b0 : (t511 == 100) = true := beq_iff_eq.mpr c157
                    have c157b1 : (t511 != 100) = false := bne_eq_false_iff_eq.mpr c157
                    clear c157
                    obtain rfl := Option.some.inj H
                    obtain ⟨Ao158, co158, eo158⟩ := Kd.S_slice HO_9.out
                    subst eo158
                    go_wp2_with (first | ((with_reducible refine gate_callee (f := 13) rfl ?_); refine goesL_ (some 161) rfl rfl Try.func13 (by kernel_rfl) rfl #[.slice Ao158 x9_7.length co158] rfl (by (try simp only [List.map_toArray, List.map_cons, List.map_nil]); first | done | rfl | (simp only [List.length_drop, List.length_take]; rfl)) ?_; (with_reducible refine (turns_Check.calls kj7 _ _ x9_7 t504 t505 _ ?side1 ?side2 A150.out).mono ?_); (case side1 => repeat (first | exact (Kd.S_reads' HO_9.out).2.2 | (with_reducible refine Kd.C_alloc ?_ _) | (with_reducible refine Kd.C_drewN ?_ _) | (with_reducible refine Kd.C_drew ?_))); (case side2 => exact (Kd.S_reads' HO_9.out).2.1); rintro e w159 ⟨rfl, hb⟩; refine ⟨_, rfl, ?_⟩; have n0_ := Aside0.mk (Kd.S_below (by (with_reducible repeat (first | apply Kd.S_alloc | apply Kd.S_drewN | apply Kd.S_drew)); exact HO_9.out) hb); have n1_ := Aside0.mk (below_step (by repeat (first | (with_reducible first | exact HB.out | apply below_alloc | apply pw_below_drewN | apply below_drew1) | exact HB.out)) hb); clear HO_9; clear HB; have HO_9 := n0_; have HB := n1_; clear n0_ n1_; (try clear hb); (try clear hb2); (try clear hk); (try clear hi)) | ((with_reducible refine gate_callee (f := 15) rfl ?_); refine goesL_ (some 166) rfl rfl Try.func15 (by kernel_rfl) rfl #[.slice Ao158 x9_7.length co158] rfl (by (try simp only [List.map_toArray, List.map_cons, List.map_nil]); first | done | rfl | (simp only [List.length_drop, List.length_take]; rfl)) ?_; (with_reducible refine (turns_Unfold.calls kj7 _ _ x9_7 t506 t507 _ ?side1 ?side2 A151.out).mono ?_); (case side1 => repeat (first | exact (Kd.S_reads' HO_9.out).2.2 | (with_reducible refine Kd.C_alloc ?_ _) | (with_reducible refine Kd.C_drewN ?_ _) | (with_reducible refine Kd.C_drew ?_))); (case side2 => exact (Kd.S_reads' HO_9.out).2.1); rintro e w160 ⟨v508, rfl, ho0, hb⟩; refine ⟨_, rfl, ?_⟩; have n0_ := Aside0.mk (Kd.S_elder' (by (with_reducible repeat (first | apply Kd.S_alloc | apply Kd.S_drewN | apply Kd.S_drew)); exact HO_9.out) (Kd.R_base ho0) hb); have n1_ := Aside0.mk (Kd.R_lower ho0 (below_size (by repeat (first | (with_reducible first | exact HB.out | apply below_alloc | apply pw_below_drewN | apply below_drew1) | exact HB.out)))); have n2_ := Aside0.mk (below_step (by repeat (first | (with_reducible first | exact HB.out | apply below_alloc | apply pw_below_drewN | apply below_drew1) | exact HB.out)) hb); clear HO_9; clear HB; have HO_9 := n0_; have HO509 := n1_; have HB := n2_; clear n0_ n1_ n2_; (try clear hb); (try clear hb2); (try clear hk); (try clear hi); (try clear ho0)) | ((with_reducible refine gate_callee (f := 17) rfl ?_); refine goesL_ (some 171) rfl rfl Try.func17 (by kernel_rfl) rfl #[.slice Ao158 x9_7.length co158] rfl (by (try simp only [List.map_toArray, List.map_cons, List.map_nil]); first | done | rfl | (simp only [List.length_drop, List.length_take]; rfl)) ?_; (with_reducible refine (turns_Passes.calls kj7 _ _ x9_7 t510 t511 _ ?side1 ?side2 A152.out).mono ?_); (case side1 => repeat (first | exact (Kd.S_reads' HO_9.out).2.2 | (with_reducible refine Kd.C_alloc ?_ _) | (with_reducible refine Kd.C_drewN ?_ _) | (with_reducible refine Kd.C_drew ?_))); (case side2 => exact (Kd.S_reads' HO_9.out).2.1); rintro e w161 ⟨v512, rfl, ho0, hb⟩; refine ⟨_, rfl, ?_⟩; have n0_ := Aside0.mk (Kd.S_elder' (by (with_reducible repeat (first | apply Kd.S_alloc | apply Kd.S_drewN | apply Kd.S_drew)); exact HO_9.out) (Kd.R_base ho0) hb); have n1_ := Aside0.mk (Kd.R_elder' (by (with_reducible repeat (first | apply Kd.R_alloc | apply Kd.R_drewN | apply Kd.R_drew)); exact HO509.out) (Kd.R_base ho0) hb); have n2_ := Aside0.mk (Kd.R_lower (Kd.R_new' ho0 (Kd.R_lt (by (with_reducible repeat (first | apply Kd.R_alloc | apply Kd.R_drewN | apply Kd.R_drew)); exact HO509.out))) (below_size (by repeat (first | (with_reducible first | exact HB.out | apply below_alloc | apply pw_below_drewN | apply below_drew1) | exact HB.out)))); have n3_ := Aside0.mk (below_step (by repeat (first | (with_reducible first | exact HB.out | apply below_alloc | apply pw_below_drewN | apply below_drew1) | exact HB.out)) hb); clear HO_9; clear HO509; clear HB; have HO_9 := n0_; have HO509 := n1_; have HO513 := n2_; have HB := n3_; clear n0_ n1_ n2_ n3_; (try clear hb); (try clear hb2); (try clear hk); (try clear hi); (try clear ho0); obtain ⟨Ao162, co162, eo162⟩ := Kd.R_slice HO509.out; subst eo162; obtain ⟨Ao163, co163, eo163⟩ := Kd.R_slice HO513.out; subst eo163))
                    go_ret
                    exact ⟨by first | rfl | (simp [errW_none, errW_some] <;> rfl) | (simp [*, errW_none, errW_some] <;> rfl), by repeat (first | (with_reducible first | exact HB.out | apply below_alloc | apply pw_below_drewN | apply below_drew1) | exact HB.out)⟩
                  · rw [if_neg c157] at H
                    have c157b0 : (t511 == 100) = false := beq_eq_false_iff_ne.mpr c157
                    have c157b1 : (t511 != 100) = true := bne_iff_ne.mpr c157
                    obtain rfl := Option.some.inj H
                    obtain ⟨Ao164, co164, eo164⟩ := Kd.S_slice HO_9.out
                    subst eo164
                    go_wp2_with (first | ((with_reducible refine gate_callee (f := 13) rfl ?_); refine goesL_ (some 161) rfl rfl Try.func13 (by kernel_rfl) rfl #[.slice Ao164 x9_7.length co164] rfl (by (try simp only [List.map_toArray, List.map_cons, List.map_nil]); first | done | rfl | (simp only [List.length_drop, List.length_take]; rfl)) ?_; (with_reducible refine (turns_Check.calls kj7 _ _ x9_7 t504 t505 _ ?side1 ?side2 A150.out).mono ?_); (case side1 => repeat (first | exact (Kd.S_reads' HO_9.out).2.2 | (with_reducible refine Kd.C_alloc ?_ _) | (with_reducible refine Kd.C_drewN ?_ _) | (with_reducible refine Kd.C_drew ?_))); (case side2 => exact (Kd.S_reads' HO_9.out).2.1); rintro e w165 ⟨rfl, hb⟩; refine ⟨_, rfl, ?_⟩; have n0_ := Aside0.mk (Kd.S_below (by (with_reducible repeat (first | apply Kd.S_alloc | apply Kd.S_drewN | apply Kd.S_drew)); exact HO_9.out) hb); have n1_ := Aside0.mk (below_step (by repeat (first | (with_reducible first | exact HB.out | apply below_alloc | apply pw_below_drewN | apply below_drew1) | exact HB.out)) hb); clear HO_9; clear HB; have HO_9 := n0_; have HB := n1_; clear n0_ n1_; (try clear hb); (try clear hb2); (try clear hk); (try clear hi)) | ((with_reducible refine gate_callee (f := 15) rfl ?_); refine goesL_ (some 166) rfl rfl Try.func15 (by kernel_rfl) rfl #[.slice Ao164 x9_7.length co164] rfl (by (try simp only [List.map_toArray, List.map_cons, List.map_nil]); first | done | rfl | (simp only [List.length_drop, List.length_take]; rfl)) ?_; (with_reducible refine (turns_Unfold.calls kj7 _ _ x9_7 t506 t507 _ ?side1 ?side2 A151.out).mono ?_); (case side1 => repeat (first | exact (Kd.S_reads' HO_9.out).2.2 | (with_reducible refine Kd.C_alloc ?_ _) | (with_reducible refine Kd.C_drewN ?_ _) | (with_reducible refine Kd.C_drew ?_))); (case side2 => exact (Kd.S_reads' HO_9.out).2.1); rintro e w166 ⟨v508, rfl, ho0, hb⟩; refine ⟨_, rfl, ?_⟩; have n0_ := Aside0.mk (Kd.S_elder' (by (with_reducible repeat (first | apply Kd.S_alloc | apply Kd.S_drewN | apply Kd.S_drew)); exact HO_9.out) (Kd.R_base ho0) hb); have n1_ := Aside0.mk (Kd.R_lower ho0 (below_size (by repeat (first | (with_reducible first | exact HB.out | apply below_alloc | apply pw_below_drewN | apply below_drew1) | exact HB.out)))); have n2_ := Aside0.mk (below_step (by repeat (first | (with_reducible first | exact HB.out | apply below_alloc | apply pw_below_drewN | apply below_drew1) | exact HB.out)) hb); clear HO_9; clear HB; have HO_9 := n0_; have HO509 := n1_; have HB := n2_; clear n0_ n1_ n2_; (try clear hb); (try clear hb2); (try clear hk); (try clear hi); (try clear ho0)) | ((with_reducible refine gate_callee (f := 17) rfl ?_); refine goesL_ (some 171) rfl rfl Try.func17 (by kernel_rfl) rfl #[.slice Ao164 x9_7.length co164] rfl (by (try simp only [List.map_toArray, List.map_cons, List.map_nil]); first | done | rfl | (simp only [List.length_drop, List.length_take]; rfl)) ?_; (with_reducible refine (turns_Passes.calls kj7 _ _ x9_7 t510 t511 _ ?side1 ?side2 A152.out).mono ?_); (case side1 => repeat (first | exact (Kd.S_reads' HO_9.out).2.2 | (with_reducible refine Kd.C_alloc ?_ _) | (with_reducible refine Kd.C_drewN ?_ _) | (with_reducible refine Kd.C_drew ?_))); (case side2 => exact (Kd.S_reads' HO_9.out).2.1); rintro e w167 ⟨v512, rfl, ho0, hb⟩; refine ⟨_, rfl, ?_⟩; have n0_ := Aside0.mk (Kd.S_elder' (by (with_reducible repeat (first | apply Kd.S_alloc | apply Kd.S_drewN | apply Kd.S_drew)); exact HO_9.out) (Kd.R_base ho0) hb); have n1_ := Aside0.mk (Kd.R_elder' (by (with_reducible repeat (first | apply Kd.R_alloc | apply Kd.R_drewN | apply Kd.R_drew)); exact HO509.out) (Kd.R_base ho0) hb); have n2_ := Aside0.mk (Kd.R_lower (Kd.R_new' ho0 (Kd.R_lt (by (with_reducible repeat (first | apply Kd.R_alloc | apply Kd.R_drewN | apply Kd.R_drew)); exact HO509.out))) (below_size (by repeat (first | (with_reducible first | exact HB.out | apply below_alloc | apply pw_below_drewN | apply below_drew1) | exact HB.out)))); have n3_ := Aside0.mk (below_step (by repeat (first | (with_reducible first | exact HB.out | apply below_alloc | apply pw_below_drewN | apply below_drew1) | exact HB.out)) hb); clear HO_9; clear HO509; clear HB; have HO_9 := n0_; have HO509 := n1_; have HO513 := n2_; have HB := n3_; clear n0_ n1_ n2_ n3_; (try clear hb); (try clear hb2); (try clear hk); (try clear hi); (try clear ho0)))
                    go_ret
                    exact ⟨by first | rfl | (simp [errW_none, errW_some] <;> rfl) | (simp [*, errW_none, errW_some] <;> rfl), by repeat (first | (with_reducible first | exact HB.out | apply below_alloc | apply pw_below_drewN | apply below_drew1) | exact HB.out)⟩
                · rw [if_neg c156] at H
                  have c156b0 : (t507 == 100) = false := beq_eq_false_iff_ne.mpr c156
                  have c156b1 : (t507 != 100) = true := bne_iff_ne.mpr c156
                  obtain rfl := Option.some.inj H
                  obtain ⟨Ao168, co168, eo168⟩ := Kd.S_slice HO_9.out
                  subst eo168
                  go_wp2_with (first | ((with_reducible refine gate_callee (f := 13) rfl ?_); refine goesL_ (some 161) rfl rfl Try.func13 (by kernel_rfl) rfl #[.slice Ao168 x9_7.length co168] rfl (by (try simp only [List.map_toArray, List.map_cons, List.map_nil]); first | done | rfl | (simp only [List.length_drop, List.length_take]; rfl)) ?_; (with_reducible refine (turns_Check.calls kj7 _ _ x9_7 t504 t505 _ ?side1 ?side2 A150.out).mono ?_); (case side1 => repeat (first | exact (Kd.S_reads' HO_9.out).2.2 | (with_reducible refine Kd.C_alloc ?_ _) | (with_reducible refine Kd.C_drewN ?_ _) | (with_reducible refine Kd.C_drew ?_))); (case side2 => exact (Kd.S_reads' HO_9.out).2.1); rintro e w169 ⟨rfl, hb⟩; refine ⟨_, rfl, ?_⟩; have n0_ := Aside0.mk (Kd.S_below (by (with_reducible repeat (first | apply Kd.S_alloc | apply Kd.S_drewN | apply Kd.S_drew)); exact HO_9.out) hb); have n1_ := Aside0.mk (below_step (by repeat (first | (with_reducible first | exact HB.out | apply below_alloc | apply pw_below_drewN | apply below_drew1) | exact HB.out)) hb); clear HO_9; clear HB; have HO_9 := n0_; have HB := n1_; clear n0_ n1_; (try clear hb); (try clear hb2); (try clear hk); (try clear hi)) | ((with_reducible refine gate_callee (f := 15) rfl ?_); refine goesL_ (some 166) rfl rfl Try.func15 (by kernel_rfl) rfl #[.slice Ao168 x9_7.length co168] rfl (by (try simp only [List.map_toArray, List.map_cons, List.map_nil]); first | done | rfl | (simp only [List.length_drop, List.length_take]; rfl)) ?_; (with_reducible refine (turns_Unfold.calls kj7 _ _ x9_7 t506 t507 _ ?side1 ?side2 A151.out).mono ?_); (case side1 => repeat (first | exact (Kd.S_reads' HO_9.out).2.2 | (with_reducible refine Kd.C_alloc ?_ _) | (with_reducible refine Kd.C_drewN ?_ _) | (with_reducible refine Kd.C_drew ?_))); (case side2 => exact (Kd.S_reads' HO_9.out).2.1); rintro e w170 ⟨v508, rfl, ho0, hb⟩; refine ⟨_, rfl, ?_⟩; have n0_ := Aside0.mk (Kd.S_elder' (by (with_reducible repeat (first | apply Kd.S_alloc | apply Kd.S_drewN | apply Kd.S_drew)); exact HO_9.out) (Kd.R_base ho0) hb); have n1_ := Aside0.mk (Kd.R_lower ho0 (below_size (by repeat (first | (with_reducible first | exact HB.out | apply below_alloc | apply pw_below_drewN | apply below_drew1) | exact HB.out)))); have n2_ := Aside0.mk (below_step (by repeat (first | (with_reducible first | exact HB.out | apply below_alloc | apply pw_below_drewN | apply below_drew1) | exact HB.out)) hb); clear HO_9; clear HB; have HO_9 := n0_; have HO509 := n1_; have HB := n2_; clear n0_ n1_ n2_; (try clear hb); (try clear hb2); (try clear hk); (try clear hi); (try clear ho0)) | ((with_reducible refine gate_callee (f := 17) rfl ?_); refine goesL_ (some 171) rfl rfl Try.func17 (by kernel_rfl) rfl #[.slice Ao168 x9_7.length co168] rfl (by (try simp only [List.map_toArray, List.map_cons, List.map_nil]); first | done | rfl | (simp only [List.length_drop, List.length_take]; rfl)) ?_; (with_reducible refine (turns_Passes.calls kj7 _ _ x9_7 t510 t511 _ ?side1 ?side2 A152.out).mono ?_); (case side1 => repeat (first | exact (Kd.S_reads' HO_9.out).2.2 | (with_reducible refine Kd.C_alloc ?_ _) | (with_reducible refine Kd.C_drewN ?_ _) | (with_reducible refine Kd.C_drew ?_))); (case side2 => exact (Kd.S_reads' HO_9.out).2.1); rintro e w171 ⟨v512, rfl, ho0, hb⟩; refine ⟨_, rfl, ?_⟩; have n0_ := Aside0.mk (Kd.S_elder' (by (with_reducible repeat (first | apply Kd.S_alloc | apply Kd.S_drewN | apply Kd.S_drew)); exact HO_9.out) (Kd.R_base ho0) hb); have n1_ := Aside0.mk (Kd.R_elder' (by (with_reducible repeat (first | apply Kd.R_alloc | apply Kd.R_drewN | apply Kd.R_drew)); exact HO509.out) (Kd.R_base ho0) hb); have n2_ := Aside0.mk (Kd.R_lower (Kd.R_new' ho0 (Kd.R_lt (by (with_reducible repeat (first | apply Kd.R_alloc | apply Kd.R_drewN | apply Kd.R_drew)); exact HO509.out))) (below_size (by repeat (first | (with_reducible first | exact HB.out | apply below_alloc | apply pw_below_drewN | apply below_drew1) | exact HB.out)))); have n3_ := Aside0.mk (below_step (by repeat (first | (with_reducible first | exact HB.out | apply below_alloc | apply pw_below_drewN | apply below_drew1) | exact HB.out)) hb); clear HO_9; clear HO509; clear HB; have HO_9 := n0_; have HO509 := n1_; have HO513 := n2_; have HB := n3_; clear n0_ n1_ n2_ n3_; (try clear hb); (try clear hb2); (try clear hk); (try clear hi); (try clear ho0)))
                  go_ret
                  exact ⟨by first | rfl | (simp [errW_none, errW_some] <;> rfl) | (simp [*, errW_none, errW_some] <;> rfl), by repeat (first | (with_reducible first | exact HB.out | apply below_alloc | apply pw_below_drewN | apply below_drew1) | exact HB.out)⟩
              · rw [if_neg c155] at H
                have c155b0 : (t505 == 100) = false := beq_eq_false_iff_ne.mpr c155
                have c155b1 : (t505 != 100) = true := bne_iff_ne.mpr c155
                obtain rfl := Option.some.inj H
                obtain ⟨Ao172, co172, eo172⟩ := Kd.S_slice HO_9.out
                subst eo172
                go_wp2_with (first | ((with_reducible refine gate_callee (f := 13) rfl ?_); refine goesL_ (some 161) rfl rfl Try.func13 (by kernel_rfl) rfl #[.slice Ao172 x9_7.length co172] rfl (by (try simp only [List.map_toArray, List.map_cons, List.map_nil]); first | done | rfl | (simp only [List.length_drop, List.length_take]; rfl)) ?_; (with_reducible refine (turns_Check.calls kj7 _ _ x9_7 t504 t505 _ ?side1 ?side2 A150.out).mono ?_); (case side1 => repeat (first | exact (Kd.S_reads' HO_9.out).2.2 | (with_reducible refine Kd.C_alloc ?_ _) | (with_reducible refine Kd.C_drewN ?_ _) | (with_reducible refine Kd.C_drew ?_))); (case side2 => exact (Kd.S_reads' HO_9.out).2.1); rintro e w173 ⟨rfl, hb⟩; refine ⟨_, rfl, ?_⟩; have n0_ := Aside0.mk (Kd.S_below (by (with_reducible repeat (first | apply Kd.S_alloc | apply Kd.S_drewN | apply Kd.S_drew)); exact HO_9.out) hb); have n1_ := Aside0.mk (below_step (by repeat (first | (with_reducible first | exact HB.out | apply below_alloc | apply pw_below_drewN | apply below_drew1) | exact HB.out)) hb); clear HO_9; clear HB; have HO_9 := n0_; have HB := n1_; clear n0_ n1_; (try clear hb); (try clear hb2); (try clear hk); (try clear hi)) | ((with_reducible refine gate_callee (f := 15) rfl ?_); refine goesL_ (some 166) rfl rfl Try.func15 (by kernel_rfl) rfl #[.slice Ao172 x9_7.length co172] rfl (by (try simp only [List.map_toArray, List.map_cons, List.map_nil]); first | done | rfl | (simp only [List.length_drop, List.length_take]; rfl)) ?_; (with_reducible refine (turns_Unfold.calls kj7 _ _ x9_7 t506 t507 _ ?side1 ?side2 A151.out).mono ?_); (case side1 => repeat (first | exact (Kd.S_reads' HO_9.out).2.2 | (with_reducible refine Kd.C_alloc ?_ _) | (with_reducible refine Kd.C_drewN ?_ _) | (with_reducible refine Kd.C_drew ?_))); (case side2 => exact (Kd.S_reads' HO_9.out).2.1); rintro e w174 ⟨v508, rfl, ho0, hb⟩; refine ⟨_, rfl, ?_⟩; have n0_ := Aside0.mk (Kd.S_elder' (by (with_reducible repeat (first | apply Kd.S_alloc | apply Kd.S_drewN | apply Kd.S_drew)); exact HO_9.out) (Kd.R_base ho0) hb); have n1_ := Aside0.mk (Kd.R_lower ho0 (below_size (by repeat (first | (with_reducible first | exact HB.out | apply below_alloc | apply pw_below_drewN | apply below_drew1) | exact HB.out)))); have n2_ := Aside0.mk (below_step (by repeat (first | (with_reducible first | exact HB.out | apply below_alloc | apply pw_below_drewN | apply below_drew1) | exact HB.out)) hb); clear HO_9; clear HB; have HO_9 := n0_; have HO509 := n1_; have HB := n2_; clear n0_ n1_ n2_; (try clear hb); (try clear hb2); (try clear hk); (try clear hi); (try clear ho0)) | ((with_reducible refine gate_callee (f := 17) rfl ?_); refine goesL_ (some 171) rfl rfl Try.func17 (by kernel_rfl) rfl #[.slice Ao172 x9_7.length co172] rfl (by (try simp only [List.map_toArray, List.map_cons, List.map_nil]); first | done | rfl | (simp only [List.length_drop, List.length_take]; rfl)) ?_; (with_reducible refine (turns_Passes.calls kj7 _ _ x9_7 t510 t511 _ ?side1 ?side2 A152.out).mono ?_); (case side1 => repeat (first | exact (Kd.S_reads' HO_9.out).2.2 | (with_reducible refine Kd.C_alloc ?_ _) | (with_reducible refine Kd.C_drewN ?_ _) | (with_reducible refine Kd.C_drew ?_))); (case side2 => exact (Kd.S_reads' HO_9.out).2.1); rintro e w175 ⟨v512, rfl, ho0, hb⟩; refine ⟨_, rfl, ?_⟩; have n0_ := Aside0.mk (Kd.S_elder' (by (with_reducible repeat (first | apply Kd.S_alloc | apply Kd.S_drewN | apply Kd.S_drew)); exact HO_9.out) (Kd.R_base ho0) hb); have n1_ := Aside0.mk (Kd.R_elder' (by (with_reducible repeat (first | apply Kd.R_alloc | apply Kd.R_drewN | apply Kd.R_drew)); exact HO509.out) (Kd.R_base ho0) hb); have n2_ := Aside0.mk (Kd.R_lower (Kd.R_new' ho0 (Kd.R_lt (by (with_reducible repeat (first | apply Kd.R_alloc | apply Kd.R_drewN | apply Kd.R_drew)); exact HO509.out))) (below_size (by repeat (first | (with_reducible first | exact HB.out | apply below_alloc | apply pw_below_drewN | apply below_drew1) | exact HB.out)))); have n3_ := Aside0.mk (below_step (by repeat (first | (with_reducible first | exact HB.out | apply below_alloc | apply pw_below_drewN | apply below_drew1) | exact HB.out)) hb); clear HO_9; clear HO509; clear HB; have HO_9 := n0_; have HO509 := n1_; have HO513 := n2_; have HB := n3_; clear n0_ n1_ n2_ n3_; (try clear hb); (try clear hb2); (try clear hk); (try clear hi); (try clear ho0)))
                go_ret
                exact ⟨by first | rfl | (simp [errW_none, errW_some] <;> rfl) | (simp [*, errW_none, errW_some] <;> rfl), by repeat (first | (with_reducible first | exact HB.out | apply below_alloc | apply pw_below_drewN | apply below_drew1) | exact HB.out)⟩
            · rw [if_neg c154] at H
              have c154b0 : (t504 == (wrap64 (1 + (Int.tmod (wrap64 (a1)) (wrap64 ((wrap64 (2 + (wrap64 (Int.tmod a0 40)))) - 1)))))) = false := beq_eq_false_iff_ne.mpr c154
              have c154b1 : (t504 != (wrap64 (1 + (Int.tmod (wrap64 (a1)) (wrap64 ((wrap64 (2 + (wrap64 (Int.tmod a0 40)))) - 1)))))) = true := bne_iff_ne.mpr c154
              obtain rfl := Option.some.inj H
              obtain ⟨Ao176, co176, eo176⟩ := Kd.S_slice HO_9.out
              subst eo176
              go_wp2_with (first | ((with_reducible refine gate_callee (f := 13) rfl ?_); refine goesL_ (some 161) rfl rfl Try.func13 (by kernel_rfl) rfl #[.slice Ao176 x9_7.length co176] rfl (by (try simp only [List.map_toArray, List.map_cons, List.map_nil]); first | done | rfl | (simp only [List.length_drop, List.length_take]; rfl)) ?_; (with_reducible refine (turns_Check.calls kj7 _ _ x9_7 t504 t505 _ ?side1 ?side2 A150.out).mono ?_); (case side1 => repeat (first | exact (Kd.S_reads' HO_9.out).2.2 | (with_reducible refine Kd.C_alloc ?_ _) | (with_reducible refine Kd.C_drewN ?_ _) | (with_reducible refine Kd.C_drew ?_))); (case side2 => exact (Kd.S_reads' HO_9.out).2.1); rintro e w177 ⟨rfl, hb⟩; refine ⟨_, rfl, ?_⟩; have n0_ := Aside0.mk (Kd.S_below (by (with_reducible repeat (first | apply Kd.S_alloc | apply Kd.S_drewN | apply Kd.S_drew)); exact HO_9.out) hb); have n1_ := Aside0.mk (below_step (by repeat (first | (with_reducible first | exact HB.out | apply below_alloc | apply pw_below_drewN | apply below_drew1) | exact HB.out)) hb); clear HO_9; clear HB; have HO_9 := n0_; have HB := n1_; clear n0_ n1_; (try clear hb); (try clear hb2); (try clear hk); (try clear hi)) | ((with_reducible refine gate_callee (f := 15) rfl ?_); refine goesL_ (some 166) rfl rfl Try.func15 (by kernel_rfl) rfl #[.slice Ao176 x9_7.length co176] rfl (by (try simp only [List.map_toArray, List.map_cons, List.map_nil]); first | done | rfl | (simp only [List.length_drop, List.length_take]; rfl)) ?_; (with_reducible refine (turns_Unfold.calls kj7 _ _ x9_7 t506 t507 _ ?side1 ?side2 A151.out).mono ?_); (case side1 => repeat (first | exact (Kd.S_reads' HO_9.out).2.2 | (with_reducible refine Kd.C_alloc ?_ _) | (with_reducible refine Kd.C_drewN ?_ _) | (with_reducible refine Kd.C_drew ?_))); (case side2 => exact (Kd.S_reads' HO_9.out).2.1); rintro e w178 ⟨v508, rfl, ho0, hb⟩; refine ⟨_, rfl, ?_⟩; have n0_ := Aside0.mk (Kd.S_elder' (by (with_reducible repeat (first | apply Kd.S_alloc | apply Kd.S_drewN | apply Kd.S_drew)); exact HO_9.out) (Kd.R_base ho0) hb); have n1_ := Aside0.mk (Kd.R_lower ho0 (below_size (by repeat (first | (with_reducible first | exact HB.out | apply below_alloc | apply pw_below_drewN | apply below_drew1) | exact HB.out)))); have n2_ := Aside0.mk (below_step (by repeat (first | (with_reducible first | exact HB.out | apply below_alloc | apply pw_below_drewN | apply below_drew1) | exact HB.out)) hb); clear HO_9; clear HB; have HO_9 := n0_; have HO509 := n1_; have HB := n2_; clear n0_ n1_ n2_; (try clear hb); (try clear hb2); (try clear hk); (try clear hi); (try clear ho0)) | ((with_reducible refine gate_callee (f := 17) rfl ?_); refine goesL_ (some 171) rfl rfl Try.func17 (by kernel_rfl) rfl #[.slice Ao176 x9_7.length co176] rfl (by (try simp only [List.map_toArray, List.map_cons, List.map_nil]); first | done | rfl | (simp only [List.length_drop, List.length_take]; rfl)) ?_; (with_reducible refine (turns_Passes.calls kj7 _ _ x9_7 t510 t511 _ ?side1 ?side2 A152.out).mono ?_); (case side1 => repeat (first | exact (Kd.S_reads' HO_9.out).2.2 | (with_reducible refine Kd.C_alloc ?_ _) | (with_reducible refine Kd.C_drewN ?_ _) | (with_reducible refine Kd.C_drew ?_))); (case side2 => exact (Kd.S_reads' HO_9.out).2.1); rintro e w179 ⟨v512, rfl, ho0, hb⟩; refine ⟨_, rfl, ?_⟩; have n0_ := Aside0.mk (Kd.S_elder' (by (with_reducible repeat (first | apply Kd.S_alloc | apply Kd.S_drewN | apply Kd.S_drew)); exact HO_9.out) (Kd.R_base ho0) hb); have n1_ := Aside0.mk (Kd.R_elder' (by (with_reducible repeat (first | apply Kd.R_alloc | apply Kd.R_drewN | apply Kd.R_drew)); exact HO509.out) (Kd.R_base ho0) hb); have n2_ := Aside0.mk (Kd.R_lower (Kd.R_new' ho0 (Kd.R_lt (by (with_reducible repeat (first | apply Kd.R_alloc | apply Kd.R_drewN | apply Kd.R_drew)); exact HO509.out))) (below_size (by repeat (first | (with_reducible first | exact HB.out | apply below_alloc | apply pw_below_drewN | apply below_drew1) | exact HB.out)))); have n3_ := Aside0.mk (below_step (by repeat (first | (with_reducible first | exact HB.out | apply below_alloc | apply pw_below_drewN | apply below_drew1) | exact HB.out)) hb); clear HO_9; clear HO509; clear HB; have HO_9 := n0_; have HO509 := n1_; have HO513 := n2_; have HB := n3_; clear n0_ n1_ n2_ n3_; (try clear hb); (try clear hb2); (try clear hk); (try clear hi); (try clear ho0)))
              go_ret
              exact ⟨by first | rfl | (simp [errW_none, errW_some] <;> rfl) | (simp [*, errW_none, errW_some] <;> rfl), by repeat (first | (with_reducible first | exact HB.out | apply below_alloc | apply pw_below_drewN | apply below_drew1) | exact HB.out)⟩
          · exact absurd rfl c153
  · replace c5 := Bool.eq_false_iff.mpr c5
    subst c5
    have H1 : (some false) = some r := by rw [if_neg (show ¬ (false = true) by decide)] at H; exact H
    clear H
    have H := H1
    clear H1
    obtain rfl := Option.some.inj H
    go_enter Try.func10, Try.ntmps10
    go_wp2_with (first | ((with_reducible refine gate_callee (f := 11) rfl ?_); refine goesL_ (some 17) rfl rfl Try.func11 (by kernel_rfl) rfl #[] rfl (by (try simp only [List.map_toArray, List.map_cons, List.map_nil]); first | done | rfl | (simp only [List.length_drop, List.length_take]; rfl)) ?_; (with_reducible refine (partitalaw10_examples.calls k  false _ A4.out).mono ?_); rintro e w184 ⟨rfl, hb⟩; refine ⟨_, rfl, ?_⟩; have n0_ := Aside0.mk (below_step (by repeat (first | (with_reducible first | exact HB.out | apply below_alloc | apply pw_below_drewN | apply below_drew1) | exact HB.out)) hb); clear HB; have HB := n0_; clear n0_; (try clear hb); (try clear hb2); (try clear hk); (try clear hi)))
    go_ret
    exact ⟨by first | rfl | (simp [errW_none, errW_some] <;> rfl) | (simp [*, errW_none, errW_some] <;> rfl), by repeat (first | (with_reducible first | exact HB.out | apply below_alloc | apply pw_below_drewN | apply below_drew1) | exact HB.out)⟩

/-- THE ONE PURE STATEMENT of partitalaw10_TurnsErrors: yours. -/
def partitalaw10_TurnsErrors.Pure : Prop := ∀ (a0 : Int) (a1 : Int) (a2 : Int), (Lit.int .u8 a0).wf = true → (Lit.int .u8 a1).wf = true → (Lit.int .u8 a2).wf = true → ∃ k, partitalaw10_TurnsErrors.f k a0 a1 a2 = some true
theorem partitalaw10_TurnsErrors.walk (P : partitalaw10_TurnsErrors.Pure) (a0 : Int) (a1 : Int) (a2 : Int) (w : World) (w0 : (Lit.int .u8 a0).wf = true) (w1 : (Lit.int .u8 a1).wf = true) (w2 : (Lit.int .u8 a2).wf = true) :
    Calls Try.prog 10 #[.int .u8 a0, .int .u8 a1, .int .u8 a2] w fun e w' => e = .returned (.bool true) ∧ Below w.heap.size w w' := by
  obtain ⟨k, h⟩ := P a0 a1 a2 w0 w1 w2
  refine (partitalaw10_TurnsErrors.calls k a0 a1 a2 true w h).mono ?_
  rintro e w' ⟨rfl, hd⟩
  exact ⟨rfl, hd⟩

end Go.Proofs.Ytendmmagjjhfnaa.M
