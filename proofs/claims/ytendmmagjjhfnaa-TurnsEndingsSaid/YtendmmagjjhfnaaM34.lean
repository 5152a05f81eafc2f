/- Printed by a program of this session (wip/tools), out of the translation: functions with the same answers as the Go code, and the contracts of the code. Lean checks it. -/
import Derived.Test.YtendmmagjjhfnaaM0
import Derived.Test.YtendmmagjjhfnaaM19
import Derived.Test.YtendmmagjjhfnaaM21
import Derived.Test.YtendmmagjjhfnaaM22
import Derived.Test.YtendmmagjjhfnaaM30
import Derived.Test.YtendmmagjjhfnaaM31
namespace Go.Proofs.Ytendmmagjjhfnaa.M
open Go.RowKit Go.Proofs.YtendmmagjjhfnaaW.PrintWords Go.Proofs.YtendmmagjjhfnaaW.PrintLast Go.Proofs.YtendmmagjjhfnaaW.PrintMore
attribute [local go_sem] max2_int min2_int max_two min_two max_three min_three max_four min_four   -- for this text's walks alone
set_option linter.unusedVariables false
set_option linter.unusedSimpArgs false

/-! ### partitalaw10_TurnsEndings: function 6 -/
mutual
def partitalaw10_TurnsEndings.l0 : Nat → Int → Bool → Int → Int → Int → List (S38) → List Int → Int → Option (Bool)
  | 0, _, _, _, _, _, _, _, _ => none
  | k + 1, x3, x9, x10, x11, x12, x13, x14, x15 => if x15 ≤ x11 then ((partitalaw10_rising.f k 0 x10).bind fun t326 => (if x14.length + t326.length < 17592186044416 then ((some (x14 ++ t326 : List Int)).bind fun y329 => ((partitalaw10_rising.f k (x13.length : Int) (wrap64 ((x13.length : Int) + x12))).bind fun t332 => (if y329.length + t332.length < 17592186044416 then (partitalaw10_TurnsEndings.l1 k x3 x9 x10 x11 x12 x13 (y329 ++ t332) x15 0) else (none)))) else (none))) else ((partitalaw10_rising.f k (x13.length : Int) (wrap64 ((x13.length : Int) + (wrap64 (Int.tmod x3 10))))).bind fun t345 => (if x14.length + t345.length < 17592186044416 then ((partitalaw10_many.f (wrap64 (Int.tmod x3 10))).bind fun t351 => (if x13.length + t351.length < 2513169434916 then ((turns_Unfold.f k (x13 ++ t351)).bind fun bt357 => (if x9 = true then (if bt357.2 = 0 then ((partitalaw10_ints.f k bt357.1 (x14 ++ t345)).bind fun t361 => (some t361)) else (some false)) else (some false))) else (none))) else (none)))
def partitalaw10_TurnsEndings.l1 : Nat → Int → Bool → Int → Int → Int → List (S38) → List Int → Int → Int → Option (Bool)
  | 0, _, _, _, _, _, _, _, _, _ => none
  | k + 1, x3, x9, x10, x11, x12, x13, x14, x15, x16 => if x16 < x12 then (if x13.length < 2513169434916 then (partitalaw10_TurnsEndings.l1 k x3 x9 x10 x11 x12 (x13 ++ [(⟨false, 0, (([x15] : List Int)), false, false, false, false, 0⟩ : S38)]) x14 x15 (wrap64 (x16 + 1))) else (none)) else (if x15 < x11 then (if 0 ≤ (wrap64 ((x13.length : Int) - 1)) then (if (wrap64 ((x13.length : Int) - 1)) < (x13.length : Int) then (partitalaw10_TurnsEndings.l0 k x3 x9 x10 x11 x12 (x13.set ((wrap64 ((x13.length : Int) - 1)) : Int).toNat (⟨(rd_T38 x13 (wrap64 ((x13.length : Int) - 1))).f0, x11, (rd_T38 x13 (wrap64 ((x13.length : Int) - 1))).f2, (rd_T38 x13 (wrap64 ((x13.length : Int) - 1))).f3, (rd_T38 x13 (wrap64 ((x13.length : Int) - 1))).f4, (rd_T38 x13 (wrap64 ((x13.length : Int) - 1))).f5, (rd_T38 x13 (wrap64 ((x13.length : Int) - 1))).f6, (rd_T38 x13 (wrap64 ((x13.length : Int) - 1))).f7⟩ : S38)) x14 (wrap64 (x15 + 1))) else (none)) else (none)) else (partitalaw10_TurnsEndings.l0 k x3 x9 x10 x11 x12 x13 x14 (wrap64 (x15 + 1))))
end
def partitalaw10_TurnsEndings.f (k : Nat) (a0 : Int) (a1 : Int) (a2 : Int) (a3 : Int) : Option (Bool) := (partitalaw10_examples.f k).bind fun t322 => (if t322 = true then ((partitalaw10_many.f (wrap64 (1 + (wrap64 (Int.tmod a0 10))))).bind fun t323 => (partitalaw10_TurnsEndings.l0 k a3 t322 (wrap64 (1 + (wrap64 (Int.tmod a0 10)))) (wrap64 (2 + (wrap64 (Int.tmod a1 8)))) (wrap64 (1 + (wrap64 (Int.tmod a2 4)))) t323 ([] : List Int) 1)) else (some false))
theorem partitalaw10_TurnsEndings.mono_l : ∀ k, (∀ y0 y1 y2 y3 y4 y5 y6 y7, LeO (partitalaw10_TurnsEndings.l0 k y0 y1 y2 y3 y4 y5 y6 y7) (partitalaw10_TurnsEndings.l0 (k + 1) y0 y1 y2 y3 y4 y5 y6 y7)) ∧ (∀ y0 y1 y2 y3 y4 y5 y6 y7 y8, LeO (partitalaw10_TurnsEndings.l1 k y0 y1 y2 y3 y4 y5 y6 y7 y8) (partitalaw10_TurnsEndings.l1 (k + 1) y0 y1 y2 y3 y4 y5 y6 y7 y8))
  | 0 => ⟨fun _ _ _ _ _ _ _ _ r h => by simp [partitalaw10_TurnsEndings.l0] at h, fun _ _ _ _ _ _ _ _ _ r h => by simp [partitalaw10_TurnsEndings.l1] at h⟩
  | k + 1 => by
    obtain ⟨ih0, ih1⟩ := partitalaw10_TurnsEndings.mono_l k
    refine ⟨?_, ?_⟩
    · intro y0 y1 y2 y3 y4 y5 y6 y7
      unfold partitalaw10_TurnsEndings.l0
      repeat' first
      | (with_reducible exact ih0 _ _ _ _ _ _ _ _)
      | (with_reducible exact ih1 _ _ _ _ _ _ _ _ _)
      | (with_reducible exact partitalaw10_examples.mono _)
      | (with_reducible exact partitalaw10_ints.mono _ _ _)
      | (with_reducible exact partitalaw10_rising.mono _ _ _)
      | (with_reducible exact turns_Unfold.mono _ _)
      | (with_reducible exact LeO.refl _)
      | (with_reducible exact LeO.none _)
      | (with_reducible refine LeO.ite ?_ ?_)
      | (with_reducible refine LeO.bind ?_ (fun _ => ?_))
      | exact ih0 _ _ _ _ _ _ _ _
      | exact ih1 _ _ _ _ _ _ _ _ _
      | exact partitalaw10_examples.mono _
      | exact partitalaw10_ints.mono _ _ _
      | exact partitalaw10_rising.mono _ _ _
      | exact turns_Unfold.mono _ _
      | exact LeO.none _
      | refine LeO.ite ?_ ?_
      | refine LeO.bind ?_ (fun _ => ?_)
    · intro y0 y1 y2 y3 y4 y5 y6 y7 y8
      unfold partitalaw10_TurnsEndings.l1
      repeat' first
      | (with_reducible exact ih0 _ _ _ _ _ _ _ _)
      | (with_reducible exact ih1 _ _ _ _ _ _ _ _ _)
      | (with_reducible exact partitalaw10_examples.mono _)
      | (with_reducible exact partitalaw10_ints.mono _ _ _)
      | (with_reducible exact partitalaw10_rising.mono _ _ _)
      | (with_reducible exact turns_Unfold.mono _ _)
      | (with_reducible exact LeO.refl _)
      | (with_reducible exact LeO.none _)
      | (with_reducible refine LeO.ite ?_ ?_)
      | (with_reducible refine LeO.bind ?_ (fun _ => ?_))
      | exact ih0 _ _ _ _ _ _ _ _
      | exact ih1 _ _ _ _ _ _ _ _ _
      | exact partitalaw10_examples.mono _
      | exact partitalaw10_ints.mono _ _ _
      | exact partitalaw10_rising.mono _ _ _
      | exact turns_Unfold.mono _ _
      | exact LeO.none _
      | refine LeO.ite ?_ ?_
      | refine LeO.bind ?_ (fun _ => ?_)
theorem partitalaw10_TurnsEndings.mono : ∀ a0 a1 a2 a3 k, LeO (partitalaw10_TurnsEndings.f k a0 a1 a2 a3) (partitalaw10_TurnsEndings.f (k + 1) a0 a1 a2 a3) := by
  intro a0 a1 a2 a3 k
  obtain ⟨ih0, ih1⟩ := partitalaw10_TurnsEndings.mono_l k
  unfold partitalaw10_TurnsEndings.f
  repeat' first
      | (with_reducible exact ih0 _ _ _ _ _ _ _ _)
      | (with_reducible exact ih1 _ _ _ _ _ _ _ _ _)
      | (with_reducible exact partitalaw10_examples.mono _)
      | (with_reducible exact partitalaw10_ints.mono _ _ _)
      | (with_reducible exact partitalaw10_rising.mono _ _ _)
      | (with_reducible exact turns_Unfold.mono _ _)
      | (with_reducible exact LeO.refl _)
      | (with_reducible exact LeO.none _)
      | (with_reducible refine LeO.ite ?_ ?_)
      | (with_reducible refine LeO.bind ?_ (fun _ => ?_))
      | exact ih0 _ _ _ _ _ _ _ _
      | exact ih1 _ _ _ _ _ _ _ _ _
      | exact partitalaw10_examples.mono _
      | exact partitalaw10_ints.mono _ _ _
      | exact partitalaw10_rising.mono _ _ _
      | exact turns_Unfold.mono _ _
      | exact LeO.none _
      | refine LeO.ite ?_ ?_
      | refine LeO.bind ?_ (fun _ => ?_)
set_option maxHeartbeats 8000000 in
set_option maxRecDepth 100000 in
theorem partitalaw10_TurnsEndings.calls (k : Nat) (a0 : Int) (a1 : Int) (a2 : Int) (a3 : Int) (r : Bool) (w : World) (h : partitalaw10_TurnsEndings.f k a0 a1 a2 a3 = some r) :
    Calls Try.prog 6 #[.int .u8 a0, .int .u8 a1, .int .u8 a2, .int .u8 a3] w fun e w' => e = .returned (.bool r) ∧ Below w.heap.size w w' := by
  have hu38 := Try.underlying38
  have HB := Aside0.mk (Below.refl w.heap.size w)
  have H : ((partitalaw10_examples.f k).bind fun t322 => (if t322 = true then ((partitalaw10_many.f (wrap64 (1 + (wrap64 (Int.tmod a0 10))))).bind fun t323 => (partitalaw10_TurnsEndings.l0 k a3 t322 (wrap64 (1 + (wrap64 (Int.tmod a0 10)))) (wrap64 (2 + (wrap64 (Int.tmod a1 8)))) (wrap64 (1 + (wrap64 (Int.tmod a2 4)))) t323 ([] : List Int) 1)) else (some false))) = some r := h
  clear h
  replace H := Option.bind_eq_some_iff.mp H
  obtain ⟨t322, A50, H⟩ := H
  replace H : (if t322 = true then ((partitalaw10_many.f (wrap64 (1 + (wrap64 (Int.tmod a0 10))))).bind fun t323 => (partitalaw10_TurnsEndings.l0 k a3 t322 (wrap64 (1 + (wrap64 (Int.tmod a0 10)))) (wrap64 (2 + (wrap64 (Int.tmod a1 8)))) (wrap64 (1 + (wrap64 (Int.tmod a2 4)))) t323 ([] : List Int) 1)) else (some false)) = some r := H
  have A5 := Aside0.mk A50
  clear A50
  by_cases c6 : t322 = true
  · subst c6
    have H1 : ((partitalaw10_many.f (wrap64 (1 + (wrap64 (Int.tmod a0 10))))).bind fun t323 => (partitalaw10_TurnsEndings.l0 k a3 true (wrap64 (1 + (wrap64 (Int.tmod a0 10)))) (wrap64 (2 + (wrap64 (Int.tmod a1 8)))) (wrap64 (1 + (wrap64 (Int.tmod a2 4)))) t323 ([] : List Int) 1)) = some r := by rw [if_pos rfl] at H; exact H
    clear H
    have H := H1
    clear H1
    replace H := Option.bind_eq_some_iff.mp H
    obtain ⟨t323, A70, H⟩ := H
    replace H : (partitalaw10_TurnsEndings.l0 k a3 true (wrap64 (1 + (wrap64 (Int.tmod a0 10)))) (wrap64 (2 + (wrap64 (Int.tmod a1 8)))) (wrap64 (1 + (wrap64 (Int.tmod a2 4)))) t323 ([] : List Int) 1) = some r := H
    have A7 := Aside0.mk A70
    clear A70
    have H' := Aside0.mk H
    clear H
    go_enter Try.func6, Try.ntmps6
    go_wp2_with (first | ((with_reducible refine gate_callee (f := 11) rfl ?_); refine goesL_ (some 19) rfl rfl Try.func11 (by kernel_rfl) rfl #[] rfl (by (try simp only [List.map_toArray, List.map_cons, List.map_nil]); first | done | rfl | (simp only [List.length_drop, List.length_take]; rfl)) ?_; (with_reducible refine (partitalaw10_examples.calls k  true _ A5.out).mono ?_); rintro e w8 ⟨rfl, hb⟩; refine ⟨_, rfl, ?_⟩; have n0_ := Aside0.mk (below_step (by repeat (first | (with_reducible first | exact HB.out | apply below_alloc | apply pw_below_drewN | apply below_drew1) | exact HB.out)) hb); clear HB; have HB := n0_; clear n0_; (try clear hb); (try clear hb2); (try clear hk); (try clear hi)) | ((with_reducible refine gate_callee (f := 20) rfl ?_); refine goesL_ (some 35) rfl rfl Try.func20 (by kernel_rfl) rfl #[.int .i64 (wrap64 (1 + (wrap64 (Int.tmod a0 10))))] rfl (by (try simp only [List.map_toArray, List.map_cons, List.map_nil]); first | done | rfl | (simp only [List.length_drop, List.length_take]; rfl)) ?_; (with_reducible refine (partitalaw10_many.calls (wrap64 (1 + (wrap64 (Int.tmod a0 10)))) t323 _ A7.out).mono ?_); rintro e w9 ⟨v324, rfl, ho0, hb⟩; refine ⟨_, rfl, ?_⟩; have n0_ := Aside0.mk (Kd.N_lower (Kd.N_mono (ok' := fun k_ => True) (Kd.S_N (Kd.S_bound ho0)) (fun k_ hk_ => trivial)) (below_size (by repeat (first | (with_reducible first | exact HB.out | apply below_alloc | apply pw_below_drewN | apply below_drew1) | exact HB.out)))); have n1_ := Aside0.mk (below_step (by repeat (first | (with_reducible first | exact HB.out | apply below_alloc | apply pw_below_drewN | apply below_drew1) | exact HB.out)) hb); clear HB; have HO325 := n0_; have HB := n1_; clear n0_ n1_; (try clear hb); (try clear hb2); (try clear hk); (try clear hi); (try clear ho0)))
    go_loopg [13, 14, 15] k (fun kq v13 v14 v15 w' => ∃ (x13_1 : List (S38)) (x14_1 : List Int) (x15_1 : Int), v15 = .int .i64 x15_1 ∧ Aside0 (partitalaw10_TurnsEndings.l0 kq a3 true (wrap64 (1 + (wrap64 (Int.tmod a0 10)))) (wrap64 (2 + (wrap64 (Int.tmod a1 8)))) (wrap64 (1 + (wrap64 (Int.tmod a2 4)))) x13_1 x14_1 x15_1 = some r) ∧ Aside0 (kq ≤ k) ∧ Aside0 (Kd.N k38 38 w' w.heap.size (fun k_ => some k_ ≠ (v14 : Value).ownBlock) v13 x13_1) ∧ Aside0 (Kd.R (Kd.int .i64) 3 w' w.heap.size (fun _ => True) v14 x14_1) ∧ Aside0 (Below w.heap.size w w'))
    case atStart => exact ⟨(t323), (([] : List Int)), (1), (by first | rfl | (simp; done) | (simp [*]; done)), H', ⟨Nat.le_refl _⟩, ⟨by (with_reducible repeat (first | apply Kd.N_alloc | apply Kd.N_drewN | apply Kd.N_drew)); exact Kd.N_mono HO325.out (fun _ hk => (by simp [Value.ownBlock]))⟩, ⟨by first | exact Kd.R_nil _ _ _ _ _ | exact Kd.N_nil _ _ _ _ _ | exact Kd.V_nil _ _ _ _ _ | exact Kd.Q_nil _ _ _ _ _ | exact Kd.S_nil _ _ _ _ _⟩, ⟨by repeat (first | (with_reducible first | exact HB.out | apply below_alloc | apply pw_below_drewN | apply below_drew1) | exact HB.out)⟩⟩
    case round =>
      clear H'
      try clear c1
      try clear c2
      try clear p2
      try clear c6
      try clear p6
      obtain ⟨x13_1, x14_1, x15_1, rfl, HA, HK1, HO_13, HO_14, HB⟩ := hrel
      cases gk with
      | zero => exact absurd HA.out (by simp [partitalaw10_TurnsEndings.l0])
      | succ k1 =>
        have H := HA.out
        clear HA
        simp only [partitalaw10_TurnsEndings.l0] at H
        by_cases c10 : x15_1 ≤ (wrap64 (2 + (wrap64 (Int.tmod a1 8))))
        · rw [if_pos c10] at H
          have c10b0 : decide (x15_1 ≤ (wrap64 (2 + (wrap64 (Int.tmod a1 8))))) = true := decide_eq_true c10
          clear c10
          replace H := Option.bind_eq_some_iff.mp H
          obtain ⟨t326, A110, H⟩ := H
          replace H : (if x14_1.length + t326.length < 17592186044416 then ((some (x14_1 ++ t326 : List Int)).bind fun y329 => ((partitalaw10_rising.f k1 (x13_1.length : Int) (wrap64 ((x13_1.length : Int) + (wrap64 (1 + (wrap64 (Int.tmod a2 4))))))).bind fun t332 => (if y329.length + t332.length < 17592186044416 then (partitalaw10_TurnsEndings.l1 k1 a3 true (wrap64 (1 + (wrap64 (Int.tmod a0 10)))) (wrap64 (2 + (wrap64 (Int.tmod a1 8)))) (wrap64 (1 + (wrap64 (Int.tmod a2 4)))) x13_1 (y329 ++ t332) x15_1 0) else (none)))) else (none)) = some r := H
          have A11 := Aside0.mk A110
          clear A110
          by_cases c12 : x14_1.length + t326.length < 17592186044416
          · rw [if_pos c12] at H
            have LMc12 := Aside0.mk c12
            clear c12
            obtain ⟨y329, hy329⟩ : ∃ y_ : List Int, y_ = (x14_1 ++ t326) := ⟨_, rfl⟩
            replace H : ((partitalaw10_rising.f k1 (x13_1.length : Int) (wrap64 ((x13_1.length : Int) + (wrap64 (1 + (wrap64 (Int.tmod a2 4))))))).bind fun t332 => (if y329.length + t332.length < 17592186044416 then (partitalaw10_TurnsEndings.l1 k1 a3 true (wrap64 (1 + (wrap64 (Int.tmod a0 10)))) (wrap64 (2 + (wrap64 (Int.tmod a1 8)))) (wrap64 (1 + (wrap64 (Int.tmod a2 4)))) x13_1 (y329 ++ t332) x15_1 0) else (none))) = some r := by first | (rw [hy329]; with_reducible exact H) | (have H2_ := (Option.bind_some _ _).symm.trans H; rw [hy329]; with_reducible exact H2_) | (have H2_ := (Option.bind_some _ _).symm.trans H; with_reducible exact H2_) | with_reducible exact H | (rw [hy329]; exact H) | exact H
            have Ny329 := Aside0.mk hy329
            clear hy329
            replace H := Option.bind_eq_some_iff.mp H
            obtain ⟨t332, A130, H⟩ := H
            replace H : (if y329.length + t332.length < 17592186044416 then (partitalaw10_TurnsEndings.l1 k1 a3 true (wrap64 (1 + (wrap64 (Int.tmod a0 10)))) (wrap64 (2 + (wrap64 (Int.tmod a1 8)))) (wrap64 (1 + (wrap64 (Int.tmod a2 4)))) x13_1 (y329 ++ t332) x15_1 0) else (none)) = some r := H
            have A13 := Aside0.mk A130
            clear A130
            by_cases c14 : y329.length + t332.length < 17592186044416
            · rw [if_pos c14] at H
              have LMc14 := Aside0.mk c14
              clear c14
              obtain ⟨y335, hy335⟩ : ∃ y_ : List Int, y_ = (y329 ++ t332) := ⟨_, rfl⟩
              replace H : (partitalaw10_TurnsEndings.l1 k1 a3 true (wrap64 (1 + (wrap64 (Int.tmod a0 10)))) (wrap64 (2 + (wrap64 (Int.tmod a1 8)))) (wrap64 (1 + (wrap64 (Int.tmod a2 4)))) x13_1 y335 x15_1 0) = some r := by first | (rw [hy335]; with_reducible exact H) | (have H2_ := (Option.bind_some _ _).symm.trans H; rw [hy335]; with_reducible exact H2_) | (have H2_ := (Option.bind_some _ _).symm.trans H; with_reducible exact H2_) | with_reducible exact H | (rw [hy335]; exact H) | exact H
              have Ny335 := Aside0.mk hy335
              clear hy335
              have H' := Aside0.mk H
              clear H
              go_wp2_with (first | ((with_reducible refine gate_callee (f := 21) rfl ?_); refine goesL_ (some 43) rfl rfl Try.func21 (by kernel_rfl) rfl #[.int .i64 0, .int .i64 (wrap64 (1 + (wrap64 (Int.tmod a0 10))))] rfl (by (try simp only [List.map_toArray, List.map_cons, List.map_nil]); first | done | rfl | (simp only [List.length_drop, List.length_take]; rfl)) ?_; (with_reducible refine (partitalaw10_rising.calls k1 0 (wrap64 (1 + (wrap64 (Int.tmod a0 10)))) t326 _ A11.out).mono ?_); rintro e w15 ⟨v327, rfl, ho0, hb⟩; refine ⟨_, rfl, ?_⟩; have n0_ := Aside0.mk (Kd.N_elder' (by (with_reducible repeat (first | apply Kd.N_alloc | apply Kd.N_drewN | apply Kd.N_drew)); exact HO_13.out) (Kd.R_base ho0) hb); have n1_ := Aside0.mk (Kd.R_elder' (by (with_reducible repeat (first | apply Kd.R_alloc | apply Kd.R_drewN | apply Kd.R_drew)); exact HO_14.out) (Kd.R_base ho0) hb); have n2_ := Aside0.mk (Kd.R_lower (Kd.R_new' ho0 (Kd.R_lt (by (with_reducible repeat (first | apply Kd.R_alloc | apply Kd.R_drewN | apply Kd.R_drew)); exact HO_14.out))) (below_size (by repeat (first | (with_reducible first | exact HB.out | apply below_alloc | apply pw_below_drewN | apply below_drew1) | exact HB.out)))); have n3_ := Aside0.mk (below_step (by repeat (first | (with_reducible first | exact HB.out | apply below_alloc | apply pw_below_drewN | apply below_drew1) | exact HB.out)) hb); clear HO_13; clear HO_14; clear HB; have HO_13 := n0_; have HO_14 := n1_; have HO328 := n2_; have HB := n3_; clear n0_ n1_ n2_ n3_; (try clear hb); (try clear hb2); (try clear hk); (try clear hi); (try clear ho0); obtain ⟨Ao17, co17, eo17⟩ := Kd.R_slice HO328.out; subst eo17) | ((with_reducible refine gate_builtin (b := .append) (xs := #[.tmp 41, .tmp 43]) rfl ?_); at_builtin; refine Kd.R_append_rows (Kd.int .i64) (w0 := w) w.heap.size rfl (.tmp 41) (.tmp 43) 31 3 (.int .i64 0) 8 rfl Try.underlying31 info3 rfl (by decide) (by omega) u14 x14_1 t326 _ _ _ (fun k_ => some k_ ≠ (.slice Ao17 t326.length co17 : Value).ownBlock) (fun _ => False) rfl rfl ?aO ?aR (fun _ _ h => h) (fun _ h => h.elim) ?aF ?aB ?aS ?aL ?_; (case aR => repeat (first | exact (Kd.R_reads' HO328.out).2.2 | (with_reducible refine Kd.C_alloc ?_ _) | (with_reducible refine Kd.C_drewN ?_ _) | (with_reducible refine Kd.C_drew ?_))); (case aB => exact (by repeat (first | (with_reducible first | exact HB.out | apply below_alloc | apply pw_below_drewN | apply below_drew1) | exact HB.out))); (case aF => exact (fun k_ hk => Kd.fresh' (Kd.R_lt (by (with_reducible repeat (first | apply Kd.R_alloc | apply Kd.R_drewN | apply Kd.R_drew)); exact HO328.out)) k_ hk)); (case aO => exact (by (with_reducible repeat (first | apply Kd.R_alloc | apply Kd.R_drewN | apply Kd.R_drew)); exact Kd.R_mono HO_14.out (fun _ hk => hk.2))); (case aS => exact (below_size (by repeat (first | (with_reducible first | exact HB.out | apply below_alloc | apply pw_below_drewN | apply below_drew1) | exact HB.out)))); (case aL => have := LMc12.out; omega); intro v330 w16 ho hb hg hat; rw [← Ny329.out] at ho; have n0_ := Aside0.mk (Kd.N_afterv (ok := (fun k_ => some k_ ≠ (.slice Ao17 t326.length co17 : Value).ownBlock)) (by (with_reducible repeat (first | apply Kd.N_alloc | apply Kd.N_drewN | apply Kd.N_drew)); exact Kd.N_mono HO_13.out (fun _ hk => ⟨hk.2, hk.1⟩)) hg hat); have n1_ := Aside0.mk (Kd.R_after (ok := (fun _ => True)) (by (with_reducible repeat (first | apply Kd.R_alloc | apply Kd.R_drewN | apply Kd.R_drew)); exact HO328.out) hg hat); have n2_ := Aside0.mk (hb); have n3_ := Aside0.mk (ho); clear HO_13; clear HO328; clear HB; clear HO_14; have HO_13 := n0_; have HO328 := n1_; have HB := n2_; have HO331 := n3_; clear n0_ n1_ n2_ n3_; clear ho hb hg hat; obtain ⟨Ao18, co18, eo18⟩ := Kd.N_slice HO_13.out; subst eo18) | ((with_reducible refine gate_callee (f := 21) rfl ?_); refine goesL_ (some 52) rfl rfl Try.func21 (by kernel_rfl) rfl #[.int .i64 (x13_1.length : Int), .int .i64 (wrap64 ((x13_1.length : Int) + (wrap64 (1 + (wrap64 (Int.tmod a2 4))))))] rfl (by (try simp only [List.map_toArray, List.map_cons, List.map_nil]); first | done | rfl | (simp only [List.length_drop, List.length_take]; rfl)) ?_; (with_reducible refine (partitalaw10_rising.calls k1 (x13_1.length : Int) (wrap64 ((x13_1.length : Int) + (wrap64 (1 + (wrap64 (Int.tmod a2 4)))))) t332 _ A13.out).mono ?_); rintro e w19 ⟨v333, rfl, ho0, hb⟩; refine ⟨_, rfl, ?_⟩; have n0_ := Aside0.mk (Kd.N_elder' (by (with_reducible repeat (first | apply Kd.N_alloc | apply Kd.N_drewN | apply Kd.N_drew)); exact HO_13.out) (Kd.R_base ho0) hb); have n1_ := Aside0.mk (Kd.R_elder' (by (with_reducible repeat (first | apply Kd.R_alloc | apply Kd.R_drewN | apply Kd.R_drew)); exact HO328.out) (Kd.R_base ho0) hb); have n2_ := Aside0.mk (Kd.R_elder' (by (with_reducible repeat (first | apply Kd.R_alloc | apply Kd.R_drewN | apply Kd.R_drew)); exact HO331.out) (Kd.R_base ho0) hb); have n3_ := Aside0.mk (Kd.R_lower (Kd.R_new' (Kd.R_new' ho0 (Kd.R_lt (by (with_reducible repeat (first | apply Kd.R_alloc | apply Kd.R_drewN | apply Kd.R_drew)); exact HO328.out))) (Kd.R_lt (by (with_reducible repeat (first | apply Kd.R_alloc | apply Kd.R_drewN | apply Kd.R_drew)); exact HO331.out))) (below_size (by repeat (first | (with_reducible first | exact HB.out | apply below_alloc | apply pw_below_drewN | apply below_drew1) | exact HB.out)))); have n4_ := Aside0.mk (below_step (by repeat (first | (with_reducible first | exact HB.out | apply below_alloc | apply pw_below_drewN | apply below_drew1) | exact HB.out)) hb); clear HO_13; clear HO328; clear HO331; clear HB; have HO_13 := n0_; have HO328 := n1_; have HO331 := n2_; have HO334 := n3_; have HB := n4_; clear n0_ n1_ n2_ n3_ n4_; (try clear hb); (try clear hb2); (try clear hk); (try clear hi); (try clear ho0); obtain ⟨Ao21, co21, eo21⟩ := Kd.R_slice HO334.out; subst eo21) | ((with_reducible refine gate_builtin (b := .append) (xs := #[.tmp 45, .tmp 52]) rfl ?_); at_builtin; refine Kd.R_append_rows (Kd.int .i64) (w0 := w) w.heap.size rfl (.tmp 45) (.tmp 52) 31 3 (.int .i64 0) 8 rfl Try.underlying31 info3 rfl (by decide) (by omega) v330 y329 t332 _ _ _ (fun k_ => some k_ ≠ (.slice Ao17 t326.length co17 : Value).ownBlock ∧ some k_ ≠ (.slice Ao21 t332.length co21 : Value).ownBlock) (fun _ => False) rfl rfl ?aO ?aR (fun _ _ h => h) (fun _ h => h.elim) ?aF ?aB ?aS ?aL ?_; (case aR => repeat (first | exact (Kd.R_reads' HO334.out).2.2 | (with_reducible refine Kd.C_alloc ?_ _) | (with_reducible refine Kd.C_drewN ?_ _) | (with_reducible refine Kd.C_drew ?_))); (case aB => exact (by repeat (first | (with_reducible first | exact HB.out | apply below_alloc | apply pw_below_drewN | apply below_drew1) | exact HB.out))); (case aF => exact (fun k_ hk => ⟨Kd.fresh' (Kd.R_lt (by (with_reducible repeat (first | apply Kd.R_alloc | apply Kd.R_drewN | apply Kd.R_drew)); exact HO328.out)) k_ hk, Kd.fresh' (Kd.R_lt (by (with_reducible repeat (first | apply Kd.R_alloc | apply Kd.R_drewN | apply Kd.R_drew)); exact HO334.out)) k_ hk⟩)); (case aO => exact (by (with_reducible repeat (first | apply Kd.R_alloc | apply Kd.R_drewN | apply Kd.R_drew)); exact HO331.out)); (case aS => exact (below_size (by repeat (first | (with_reducible first | exact HB.out | apply below_alloc | apply pw_below_drewN | apply below_drew1) | exact HB.out)))); (case aL => have := LMc14.out; omega); intro v336 w20 ho hb hg hat; rw [← Ny335.out] at ho; have n0_ := Aside0.mk (Kd.N_afterv (ok := (fun k_ => some k_ ≠ (.slice Ao17 t326.length co17 : Value).ownBlock ∧ some k_ ≠ (.slice Ao21 t332.length co21 : Value).ownBlock)) (by (with_reducible repeat (first | apply Kd.N_alloc | apply Kd.N_drewN | apply Kd.N_drew)); exact Kd.N_mono HO_13.out (fun _ hk => ⟨⟨hk.1.1, hk.2⟩, hk.1.2⟩)) hg hat); have n1_ := Aside0.mk (Kd.R_after (ok := (fun k_ => some k_ ≠ (.slice Ao21 t332.length co21 : Value).ownBlock)) (by (with_reducible repeat (first | apply Kd.R_alloc | apply Kd.R_drewN | apply Kd.R_drew)); exact Kd.R_mono HO328.out (fun _ hk => ⟨hk.2, hk.1.2⟩)) hg hat); have n2_ := Aside0.mk (Kd.R_after (ok := (fun k_ => some k_ ≠ (.slice Ao17 t326.length co17 : Value).ownBlock)) (by (with_reducible repeat (first | apply Kd.R_alloc | apply Kd.R_drewN | apply Kd.R_drew)); exact Kd.R_mono HO334.out (fun _ hk => ⟨hk.1.2, hk.2⟩)) hg hat); have n3_ := Aside0.mk (hb); have n4_ := Aside0.mk (ho); clear HO_13; clear HO328; clear HO334; clear HB; clear HO331; have HO_13 := n0_; have HO328 := n1_; have HO334 := n2_; have HB := n3_; have HO337 := n4_; clear n0_ n1_ n2_ n3_ n4_; clear ho hb hg hat))
              go_loopg [13, 16] k1 (fun kq v13 v16 w' => ∃ (x13_2 : List (S38)) (x16_2 : Int), v16 = .int .i64 x16_2 ∧ Aside0 (partitalaw10_TurnsEndings.l1 kq a3 true (wrap64 (1 + (wrap64 (Int.tmod a0 10)))) (wrap64 (2 + (wrap64 (Int.tmod a1 8)))) (wrap64 (1 + (wrap64 (Int.tmod a2 4)))) x13_2 y335 x15_1 x16_2 = some r) ∧ Aside0 (kq ≤ k1) ∧ Aside0 (Kd.N k38 38 w' w.heap.size (fun k_ => some k_ ≠ (v336 : Value).ownBlock) v13 x13_2) ∧ Aside0 (Kd.R (Kd.int .i64) 3 w' w.heap.size (fun _ => True) v336 y335) ∧ Aside0 (Below w.heap.size w w'))
              case atStart => exact ⟨(x13_1), (0), (by first | rfl | (simp; done) | (simp [*]; done)), H', ⟨Nat.le_refl _⟩, ⟨by (with_reducible repeat (first | apply Kd.N_alloc | apply Kd.N_drewN | apply Kd.N_drew)); exact Kd.N_mono HO_13.out (fun _ hk => hk.2)⟩, ⟨by (with_reducible repeat (first | apply Kd.R_alloc | apply Kd.R_drewN | apply Kd.R_drew)); exact Kd.R_mono HO337.out (fun _ hk => trivial)⟩, ⟨by repeat (first | (with_reducible first | exact HB.out | apply below_alloc | apply pw_below_drewN | apply below_drew1) | exact HB.out)⟩⟩
              case round =>
                clear H'
                try clear c1
                try clear c2
                try clear p2
                try clear c6
                try clear p6
                try clear c10
                try clear c10b0
                try clear c11
                try clear c12
                try clear c14
                try clear c20
                try clear c21
                try clear p2
                try clear p6
                obtain ⟨x13_2, x16_2, rfl, HA, HK2, HO_13, HO_14, HB⟩ := hrel
                cases gk with
                | zero => exact absurd HA.out (by simp [partitalaw10_TurnsEndings.l1])
                | succ k2 =>
                  have H := HA.out
                  clear HA
                  simp only [partitalaw10_TurnsEndings.l1] at H
                  by_cases c22 : x16_2 < (wrap64 (1 + (wrap64 (Int.tmod a2 4))))
                  · rw [if_pos c22] at H
                    have c22b0 : decide (x16_2 < (wrap64 (1 + (wrap64 (Int.tmod a2 4))))) = true := decide_eq_true c22
                    clear c22
                    obtain ⟨y338, hy338⟩ : ∃ y_ : List Int, y_ = (([x15_1] : List Int)) := ⟨_, rfl⟩
                    replace H : (if x13_2.length < 2513169434916 then (partitalaw10_TurnsEndings.l1 k2 a3 true (wrap64 (1 + (wrap64 (Int.tmod a0 10)))) (wrap64 (2 + (wrap64 (Int.tmod a1 8)))) (wrap64 (1 + (wrap64 (Int.tmod a2 4)))) (x13_2 ++ [(⟨false, 0, y338, false, false, false, false, 0⟩ : S38)]) y335 x15_1 (wrap64 (x16_2 + 1))) else (none)) = some r := by first | (rw [hy338]; with_reducible exact H) | (have H2_ := (Option.bind_some _ _).symm.trans H; rw [hy338]; with_reducible exact H2_) | (have H2_ := (Option.bind_some _ _).symm.trans H; with_reducible exact H2_) | with_reducible exact H | (rw [hy338]; exact H) | exact H
                    have Ny338 := Aside0.mk hy338
                    clear hy338
                    by_cases c23 : x13_2.length < 2513169434916
                    · rw [if_pos c23] at H
                      have LMc23 := Aside0.mk c23
                      clear c23
                      obtain ⟨y341, hy341⟩ : ∃ y_ : List (S38), y_ = (x13_2 ++ [(⟨false, 0, y338, false, false, false, false, 0⟩ : S38)]) := ⟨_, rfl⟩
                      replace H : (partitalaw10_TurnsEndings.l1 k2 a3 true (wrap64 (1 + (wrap64 (Int.tmod a0 10)))) (wrap64 (2 + (wrap64 (Int.tmod a1 8)))) (wrap64 (1 + (wrap64 (Int.tmod a2 4)))) y341 y335 x15_1 (wrap64 (x16_2 + 1))) = some r := by first | (rw [hy341]; with_reducible exact H) | (have H2_ := (Option.bind_some _ _).symm.trans H; rw [hy341]; with_reducible exact H2_) | (have H2_ := (Option.bind_some _ _).symm.trans H; with_reducible exact H2_) | with_reducible exact H | (rw [hy341]; exact H) | exact H
                      have Ny341 := Aside0.mk hy341
                      clear hy341
                      have H' := Aside0.mk H
                      clear H
                      go_wp2_with (first | ((with_reducible refine gate_dst (N := 61) rfl ?_); refine Kd.R_lit (Kd.int .i64) _ 3 ?hg (N := 61) ?hd (xs := ([x15_1] : List Int)) (inner := [.int .i64 x15_1]) (ok := fun _ => True) (okp := fun _ => True) ?hr ?hp (fun _ hk => hk) trivial (Below.refl _ _) (Nat.le_refl _) (by simp) ?_; (case hd => rfl); (case hg => rfl); (case hr => first | (go_simp; done) | (go_simp; rfl)); (case hp => exact (Reps.one (show Kd.M (Kd.int .i64) _ _ _ x15_1 [.int .i64 x15_1] from rfl) (Reps.none _ _))); intro v339 w24 ho25 hb hg_ hnew_; clear hg_ hnew_; (first | rw [← Ny338.out] at ho25 | (simp only [Int.reduceToNat] at ho25; rw [← Ny338.out] at ho25)); have n0_ := Aside0.mk (Kd.N_elder' (by (with_reducible repeat (first | apply Kd.N_alloc | apply Kd.N_drewN | apply Kd.N_drew)); exact HO_13.out) (Kd.R_base ho25) hb); have n1_ := Aside0.mk (Kd.R_elder' (by (with_reducible repeat (first | apply Kd.R_alloc | apply Kd.R_drewN | apply Kd.R_drew)); exact HO_14.out) (Kd.R_base ho25) hb); have n2_ := Aside0.mk (Kd.R_lower (Kd.R_new' ho25 (Kd.R_lt (by (with_reducible repeat (first | apply Kd.R_alloc | apply Kd.R_drewN | apply Kd.R_drew)); exact HO_14.out))) (below_size (by repeat (first | (with_reducible first | exact HB.out | apply below_alloc | apply pw_below_drewN | apply below_drew1) | exact HB.out)))); have n3_ := Aside0.mk (below_step (by repeat (first | (with_reducible first | exact HB.out | apply below_alloc | apply pw_below_drewN | apply below_drew1) | exact HB.out)) hb); clear HO_13; clear HO_14; clear HB; have HO_13 := n0_; have HO_14 := n1_; have HO340 := n2_; have HB := n3_; clear n0_ n1_ n2_ n3_; clear hb ho25; obtain ⟨Ao26, co26, eo26⟩ := Kd.R_slice HO340.out; subst eo26) | ((with_reducible refine gate_builtin (b := .append) (xs := #[.tmp 59, .tmp 63]) rfl ?_); at_builtin; refine Kd.N_append k38 (w0 := w) w.heap.size rfl (.tmp 59) (.tmp 63) 22 38 (.agg #[(.bool false), (.int .i64 0), (.slice none 0 0), (.bool false), (.bool false), (.bool false), (.bool false), (.int .i64 0)]) 56 rfl Try.underlying22 info38 rfl (by decide) (by omega) u13 x13_2 (⟨false, 0, y338, false, false, false, false, 0⟩ : S38) [.bool false, .int .i64 0, .slice Ao26 y338.length co26, .bool false, .bool false, .bool false, .bool false, .int .i64 0] (fun k_ => some k_ ≠ (v336 : Value).ownBlock) (fun k_ => ((fun k_ => some k_ ≠ (v336 : Value).ownBlock)) k_ ∧ some k_ ≠ (u13 : Value).ownBlock) rfl rfl ?aP (fun _ hk => hk) ?aF ?aO ?aB ?aS ?aL ?_; (case aP => exact (k38_mkF _ _ (⟨false, 0, y338, false, false, false, false, 0⟩ : S38) (Kd.R_reads' (Kd.R_mono (ok' := (fun k_ => ((fun k_ => some k_ ≠ (v336 : Value).ownBlock)) k_ ∧ some k_ ≠ (u13 : Value).ownBlock)) (Kd.R_apart' (HO340.out) (Kd.N_typed HO_13.out) (by decide)) (fun k_ hk => ⟨hk.1.2, hk.2⟩))).2.1 (Kd.R_F (Kd.R_mono (ok' := (fun k_ => ((fun k_ => some k_ ≠ (v336 : Value).ownBlock)) k_ ∧ some k_ ≠ (u13 : Value).ownBlock)) (Kd.R_apart' (HO340.out) (Kd.N_typed HO_13.out) (by decide)) (fun k_ hk => ⟨hk.1.2, hk.2⟩))))); (case aB => exact (by repeat (first | (with_reducible first | exact HB.out | apply below_alloc | apply pw_below_drewN | apply below_drew1) | exact HB.out))); (case aF => exact (fun k_ hk => Kd.fresh' (Kd.R_lt (by (with_reducible repeat (first | apply Kd.R_alloc | apply Kd.R_drewN | apply Kd.R_drew)); exact HO_14.out)) k_ hk)); (case aO => exact (by (with_reducible repeat (first | apply Kd.N_alloc | apply Kd.N_drewN | apply Kd.N_drew)); exact Kd.N_mono HO_13.out (fun _ hk => hk.1))); (case aS => exact (below_size (by repeat (first | (with_reducible first | exact HB.out | apply below_alloc | apply pw_below_drewN | apply below_drew1) | exact HB.out)))); (case aL => have := LMc23.out; omega); intro v342 w27 ho hb hg hat; rw [← Ny341.out] at ho; have n0_ := Aside0.mk (Kd.R_over' (by (with_reducible repeat (first | apply Kd.R_alloc | apply Kd.R_drewN | apply Kd.R_drew)); exact HO_14.out) (Kd.N_typed (by (with_reducible repeat (first | apply Kd.N_alloc | apply Kd.N_drewN | apply Kd.N_drew)); exact HO_13.out)) (by decide) hg); have n1_ := Aside0.mk (hb); have n2_ := Aside0.mk (ho); clear HO_14; clear HB; clear HO_13; clear HO340; have HO_14 := n0_; have HB := n1_; have HO343 := n2_; clear n0_ n1_ n2_; clear ho hb hg hat))
                      go_roundg k2
                      case measure => have := HK1.out; have := HK2.out; omega
                      case rel => exact ⟨(y341), (wrap64 (x16_2 + 1)), (by first | rfl | (simp; done) | (simp [*]; done)), H', ⟨by have := HK1.out; have := HK2.out; omega⟩, ⟨by (with_reducible repeat (first | apply Kd.N_alloc | apply Kd.N_drewN | apply Kd.N_drew)); exact HO343.out⟩, ⟨by (with_reducible repeat (first | apply Kd.R_alloc | apply Kd.R_drewN | apply Kd.R_drew)); exact Kd.R_mono HO_14.out (fun _ hk => trivial)⟩, ⟨by repeat (first | (with_reducible first | exact HB.out | apply below_alloc | apply pw_below_drewN | apply below_drew1) | exact HB.out)⟩⟩
                    · rw [if_neg c23] at H
                      exact absurd H (by simp)
                  · rw [if_neg c22] at H
                    have c22b0 : decide (x16_2 < (wrap64 (1 + (wrap64 (Int.tmod a2 4))))) = false := decide_eq_false c22
                    clear c22
                    by_cases c28 : x15_1 < (wrap64 (2 + (wrap64 (Int.tmod a1 8))))
                    · rw [if_pos c28] at H
                      have c28b0 : decide (x15_1 < (wrap64 (2 + (wrap64 (Int.tmod a1 8))))) = true := decide_eq_true c28
                      clear c28
                      obtain ⟨ji29, hji29⟩ : ∃ j_ : Int, (wrap64 ((x13_2.length : Int) - 1)) = j_ := ⟨_, rfl⟩
                      replace H : (if 0 ≤ (ji29) then (if (ji29) < (x13_2.length : Int) then (partitalaw10_TurnsEndings.l0 k2 a3 true (wrap64 (1 + (wrap64 (Int.tmod a0 10)))) (wrap64 (2 + (wrap64 (Int.tmod a1 8)))) (wrap64 (1 + (wrap64 (Int.tmod a2 4)))) (x13_2.set ((ji29) : Int).toNat (⟨(rd_T38 x13_2 (ji29)).f0, (wrap64 (2 + (wrap64 (Int.tmod a1 8)))), (rd_T38 x13_2 (ji29)).f2, (rd_T38 x13_2 (ji29)).f3, (rd_T38 x13_2 (ji29)).f4, (rd_T38 x13_2 (ji29)).f5, (rd_T38 x13_2 (ji29)).f6, (rd_T38 x13_2 (ji29)).f7⟩ : S38)) y335 (wrap64 (x15_1 + 1))) else (none)) else (none)) = some r := by first | (rw [hji29] at H; exact H) | (simp only [hji29] at H ⊢; exact H)
                      have hji29w : (IntKind.i64.wrap ((x13_2.length : Int) - 1)) = ji29 := (i64_w _).trans hji29
                      by_cases c30 : 0 ≤ (ji29)
                      · rw [if_pos c30] at H
                        have c30b0 : decide (0 ≤ (ji29)) = true := decide_eq_true c30
                        clear c30
                        by_cases c31 : (ji29) < (x13_2.length : Int)
                        · rw [if_pos c31] at H
                          have c31b0 : decide ((ji29) < (x13_2.length : Int)) = true := decide_eq_true c31
                          clear c31
                          obtain ⟨y344, hy344⟩ : ∃ y_ : List (S38), y_ = (x13_2.set ((ji29) : Int).toNat (⟨(rd_T38 x13_2 (ji29)).f0, (wrap64 (2 + (wrap64 (Int.tmod a1 8)))), (rd_T38 x13_2 (ji29)).f2, (rd_T38 x13_2 (ji29)).f3, (rd_T38 x13_2 (ji29)).f4, (rd_T38 x13_2 (ji29)).f5, (rd_T38 x13_2 (ji29)).f6, (rd_T38 x13_2 (ji29)).f7⟩ : S38)) := ⟨_, rfl⟩
                          replace H : (partitalaw10_TurnsEndings.l0 k2 a3 true (wrap64 (1 + (wrap64 (Int.tmod a0 10)))) (wrap64 (2 + (wrap64 (Int.tmod a1 8)))) (wrap64 (1 + (wrap64 (Int.tmod a2 4)))) y344 y335 (wrap64 (x15_1 + 1))) = some r := by first | (rw [hy344]; with_reducible exact H) | (have H2_ := (Option.bind_some _ _).symm.trans H; rw [hy344]; with_reducible exact H2_) | (have H2_ := (Option.bind_some _ _).symm.trans H; with_reducible exact H2_) | with_reducible exact H | (rw [hy344]; exact H) | exact H
                          have Ny344 := Aside0.mk hy344
                          clear hy344
                          have H' := Aside0.mk H
                          clear H
                          obtain ⟨Ao33, co33, eo33⟩ := Kd.N_slice HO_13.out
                          subst eo33
                          have p32 : 0 ≤ ((ji29) : Int) := of_decide_eq_true (by first | (with_reducible assumption) | assumption)
                          have q32 : ((ji29) : Int) < ((x13_2.length : Int) : Int) := of_decide_eq_true (by first | (with_reducible assumption) | assumption)
                          obtain ⟨go32, co32, eo32, gb32, gl32, cl32, HG32⟩ := Kd.N_form HO_13.out (by omega)
                          (first | cases eo32 | (injection eo32 with ea_ en_ ec_; (first | subst ea_ | (injection ea_ with ea_; subst ea_)); subst ec_; clear en_))
                          have GB32 := Aside0.mk gb32
                          have GG32 := Aside0.mk HG32
                          clear gb32 gl32 HG32
                          obtain ⟨ce32, hcl32, hM32, hcc32, hfr32⟩ := Kd.N_elem HO_13.out z38 ((ji29) : Int) p32 q32
                          obtain ⟨ua32_2, uc32_2, rfl, ul32_2, ge32_2⟩ := k38_openF hM32
                          have hx32_0 : wr.cell? ⟨go32, ((ji29) : Int).toNat * 8, none⟩ = some (.bool ((rd_T38 x13_2 (ji29)).f0)) := hcc32 0 _ rfl
                          have hx32_1 : wr.cell? ⟨go32, ((ji29) : Int).toNat * 8 + 1, none⟩ = some (.int .i64 ((rd_T38 x13_2 (ji29)).f1)) := hcc32 1 _ rfl
                          have hx32_2 : wr.cell? ⟨go32, ((ji29) : Int).toNat * 8 + 2, none⟩ = some (.slice ua32_2 ((rd_T38 x13_2 (ji29)).f2).length uc32_2) := hcc32 2 _ rfl
                          have hx32_3 : wr.cell? ⟨go32, ((ji29) : Int).toNat * 8 + 3, none⟩ = some (.bool ((rd_T38 x13_2 (ji29)).f3)) := hcc32 3 _ rfl
                          have hx32_4 : wr.cell? ⟨go32, ((ji29) : Int).toNat * 8 + 4, none⟩ = some (.bool ((rd_T38 x13_2 (ji29)).f4)) := hcc32 4 _ rfl
                          have hx32_5 : wr.cell? ⟨go32, ((ji29) : Int).toNat * 8 + 5, none⟩ = some (.bool ((rd_T38 x13_2 (ji29)).f5)) := hcc32 5 _ rfl
                          have hx32_6 : wr.cell? ⟨go32, ((ji29) : Int).toNat * 8 + 6, none⟩ = some (.bool ((rd_T38 x13_2 (ji29)).f6)) := hcc32 6 _ rfl
                          have hx32_7 : wr.cell? ⟨go32, ((ji29) : Int).toNat * 8 + 7, none⟩ = some (.int .i64 ((rd_T38 x13_2 (ji29)).f7)) := hcc32 7 _ rfl
                          have hf32_0 : wr.frozen? ⟨go32, ((ji29) : Int).toNat * 8, none⟩ = false := hfr32 0
                          have hf32_1 : wr.frozen? ⟨go32, ((ji29) : Int).toNat * 8 + 1, none⟩ = false := hfr32 1
                          have hf32_2 : wr.frozen? ⟨go32, ((ji29) : Int).toNat * 8 + 2, none⟩ = false := hfr32 2
                          have hf32_3 : wr.frozen? ⟨go32, ((ji29) : Int).toNat * 8 + 3, none⟩ = false := hfr32 3
                          have hf32_4 : wr.frozen? ⟨go32, ((ji29) : Int).toNat * 8 + 4, none⟩ = false := hfr32 4
                          have hf32_5 : wr.frozen? ⟨go32, ((ji29) : Int).toNat * 8 + 5, none⟩ = false := hfr32 5
                          have hf32_6 : wr.frozen? ⟨go32, ((ji29) : Int).toNat * 8 + 6, none⟩ = false := hfr32 6
                          have hf32_7 : wr.frozen? ⟨go32, ((ji29) : Int).toNat * 8 + 7, none⟩ = false := hfr32 7
                          clear hcl32 hcc32 hfr32 hM32
                          replace p32 := eq_true p32
                          replace q32 := eq_true q32
                          have HX34 := Aside0.mk (show Kd.N k38 38 wr w.heap.size (fun k_ => some k_ ≠ (v336 : Value).ownBlock) (.slice (some ⟨go32, 0, none⟩) x13_2.length co33) x13_2 from (by (with_reducible repeat (first | apply Kd.N_alloc | apply Kd.N_drewN | apply Kd.N_drew)); exact HO_13.out))
                          obtain ⟨ce34, hcl34, hM34, hcc34, hfr34⟩ := Kd.N_elem HX34.out z38 ((ji29) : Int) (of_decide_eq_true (by first | (with_reducible assumption) | assumption)) (by have h_ : ((ji29) : Int) < ((x13_2.length : Int) : Int) := of_decide_eq_true (by first | (with_reducible assumption) | assumption); first | exact h_ | (have e_ := (Kd.N_reads' HO_13.out).1; omega) | simpa using h_)
                          obtain ⟨ua34_2, uc34_2, rfl, ul34_2, ge34_2⟩ := k38_openF hM34
                          have HP34 := Kd.N_seg HX34.out ((ji29) : Int) (of_decide_eq_true (by first | (with_reducible assumption) | assumption)) (by have h_ : ((ji29) : Int) < ((x13_2.length : Int) : Int) := of_decide_eq_true (by first | (with_reducible assumption) | assumption); first | exact h_ | (have e_ := (Kd.N_reads' HO_13.out).1; omega) | simpa using h_) (seg := [.int .i64 (wrap64 (2 + (wrap64 (Int.tmod a1 8))))]) (j := 1) hcl34 hcc34 (show 2 ≤ 8 from by decide) (x' := (⟨(rd_T38 x13_2 (ji29)).f0, (wrap64 (2 + (wrap64 (Int.tmod a1 8)))), (rd_T38 x13_2 (ji29)).f2, (rd_T38 x13_2 (ji29)).f3, (rd_T38 x13_2 (ji29)).f4, (rd_T38 x13_2 (ji29)).f5, (rd_T38 x13_2 (ji29)).f6, (rd_T38 x13_2 (ji29)).f7⟩ : S38)) (k38_mkF _ _ (⟨(rd_T38 x13_2 (ji29)).f0, (wrap64 (2 + (wrap64 (Int.tmod a1 8)))), (rd_T38 x13_2 (ji29)).f2, (rd_T38 x13_2 (ji29)).f3, (rd_T38 x13_2 (ji29)).f4, (rd_T38 x13_2 (ji29)).f5, (rd_T38 x13_2 (ji29)).f6, (rd_T38 x13_2 (ji29)).f7⟩ : S38) ul34_2 ge34_2) (fun _ hk => hk)
                          have hx34_1 := hcc34 1 _ rfl
                          (try simp only [show (k38).sz = 8 from rfl, Nat.mul_one, Nat.add_zero] at hx34_1)
                          have hf34_1 := hfr34 1
                          (try simp only [show (k38).sz = 8 from rfl, Nat.mul_one, Nat.add_zero] at hf34_1)
                          clear hcl34 hcc34 hfr34 hM34
                          go_wp2_with (first | ((with_reducible refine gate_store (t := 3) (p := 74) rfl ?_); refine store_event (t := 3) (p := 74) (v := ?vo_w35) (w1 := (wr.setCell ⟨go32, ((ji29) : Int).toNat * 8 + 1, none⟩ (.int .i64 (wrap64 (2 + (wrap64 (Int.tmod a1 8))))))) ?hg ?ho ?hn ?hr ?_; (case ho => rfl); (case hg => rfl); (case hn => rfl); (case hr => first | (go_simp; done) | (go_simp; rfl)); intro w35 hw; have hg : wr.grownBy w35 (some go32) := (by rw [hw]; exact HP34.2); have hp_ : Kd.N k38 38 w35 w.heap.size (fun k_ => some k_ ≠ (v336 : Value).ownBlock) (.slice (some ⟨go32, 0, none⟩) x13_2.length co33) y344 := (by rw [hw, Ny344.out]; exact HP34.1); clear HP34; have n0_ := Aside0.mk (hp_); have n1_ := Aside0.mk (Kd.R_over' (v := (.slice (some ⟨go32, 0, none⟩) x13_2.length co33)) (by (with_reducible repeat (first | apply Kd.R_alloc | apply Kd.R_drewN | apply Kd.R_drew)); exact HO_14.out) (Kd.N_typed HO_13.out) (by decide) hg); have n2_ := Aside0.mk ((by rw [hw]; exact below_set (HB.out) GB32.out : Below w.heap.size w w35)); clear HO_13; clear HO_14; clear HB; have HO_13 := n0_; have HO_14 := n1_; have HB := n2_; clear n0_ n1_ n2_; clear hg hw hp_))
                          go_roundg k2
                          case measure => have := HK1.out; have := HK2.out; omega
                          case rel => exact ⟨(y344), (y335), (wrap64 (x15_1 + 1)), (by first | rfl | (simp; done) | (simp [*]; done)), H', ⟨by have := HK1.out; have := HK2.out; omega⟩, ⟨by (with_reducible repeat (first | apply Kd.N_alloc | apply Kd.N_drewN | apply Kd.N_drew)); exact HO_13.out⟩, ⟨by (with_reducible repeat (first | apply Kd.R_alloc | apply Kd.R_drewN | apply Kd.R_drew)); exact HO_14.out⟩, ⟨by repeat (first | (with_reducible first | exact HB.out | apply below_alloc | apply pw_below_drewN | apply below_drew1) | exact HB.out)⟩⟩
                        · rw [if_neg c31] at H
                          exact absurd H (by simp)
                      · rw [if_neg c30] at H
                        exact absurd H (by simp)
                    · rw [if_neg c28] at H
                      have c28b0 : decide (x15_1 < (wrap64 (2 + (wrap64 (Int.tmod a1 8))))) = false := decide_eq_false c28
                      clear c28
                      have H' := Aside0.mk H
                      clear H
                      go_wp2
                      go_roundg k2
                      case measure => have := HK1.out; have := HK2.out; omega
                      case rel => exact ⟨(x13_2), (y335), (wrap64 (x15_1 + 1)), (by first | rfl | (simp; done) | (simp [*]; done)), H', ⟨by have := HK1.out; have := HK2.out; omega⟩, ⟨by (with_reducible repeat (first | apply Kd.N_alloc | apply Kd.N_drewN | apply Kd.N_drew)); exact HO_13.out⟩, ⟨by (with_reducible repeat (first | apply Kd.R_alloc | apply Kd.R_drewN | apply Kd.R_drew)); exact HO_14.out⟩, ⟨by repeat (first | (with_reducible first | exact HB.out | apply below_alloc | apply pw_below_drewN | apply below_drew1) | exact HB.out)⟩⟩
            · rw [if_neg c14] at H
              exact absurd H (by simp)
          · rw [if_neg c12] at H
            exact absurd H (by simp)
        · rw [if_neg c10] at H
          have c10b0 : decide (x15_1 ≤ (wrap64 (2 + (wrap64 (Int.tmod a1 8))))) = false := decide_eq_false c10
          clear c10
          replace H := Option.bind_eq_some_iff.mp H
          obtain ⟨t345, A360, H⟩ := H
          replace H : (if x14_1.length + t345.length < 17592186044416 then ((partitalaw10_many.f (wrap64 (Int.tmod a3 10))).bind fun t351 => (if x13_1.length + t351.length < 2513169434916 then ((turns_Unfold.f k1 (x13_1 ++ t351)).bind fun bt357 => (if true = true then (if bt357.2 = 0 then ((partitalaw10_ints.f k1 bt357.1 (x14_1 ++ t345)).bind fun t361 => (some t361)) else (some false)) else (some false))) else (none))) else (none)) = some r := H
          have A36 := Aside0.mk A360
          clear A360
          by_cases c37 : x14_1.length + t345.length < 17592186044416
          · rw [if_pos c37] at H
            have LMc37 := Aside0.mk c37
            clear c37
            obtain ⟨y348, hy348⟩ : ∃ y_ : List Int, y_ = (x14_1 ++ t345) := ⟨_, rfl⟩
            replace H : ((partitalaw10_many.f (wrap64 (Int.tmod a3 10))).bind fun t351 => (if x13_1.length + t351.length < 2513169434916 then ((turns_Unfold.f k1 (x13_1 ++ t351)).bind fun bt357 => (if true = true then (if bt357.2 = 0 then ((partitalaw10_ints.f k1 bt357.1 y348).bind fun t361 => (some t361)) else (some false)) else (some false))) else (none))) = some r := by first | (rw [hy348]; with_reducible exact H) | (have H2_ := (Option.bind_some _ _).symm.trans H; rw [hy348]; with_reducible exact H2_) | (have H2_ := (Option.bind_some _ _).symm.trans H; with_reducible exact H2_) | with_reducible exact H | (rw [hy348]; exact H) | exact H
            have Ny348 := Aside0.mk hy348
            clear hy348
            replace H := Option.bind_eq_some_iff.mp H
            obtain ⟨t351, A380, H⟩ := H
            replace H : (if x13_1.length + t351.length < 2513169434916 then ((turns_Unfold.f k1 (x13_1 ++ t351)).bind fun bt357 => (if true = true then (if bt357.2 = 0 then ((partitalaw10_ints.f k1 bt357.1 y348).bind fun t361 => (some t361)) else (some false)) else (some false))) else (none)) = some r := H
            have A38 := Aside0.mk A380
            clear A380
            by_cases c39 : x13_1.length + t351.length < 2513169434916
            · rw [if_pos c39] at H
              have LMc39 := Aside0.mk c39
              clear c39
              obtain ⟨y354, hy354⟩ : ∃ y_ : List (S38), y_ = (x13_1 ++ t351) := ⟨_, rfl⟩
              replace H : ((turns_Unfold.f k1 y354).bind fun bt357 => (if true = true then (if bt357.2 = 0 then ((partitalaw10_ints.f k1 bt357.1 y348).bind fun t361 => (some t361)) else (some false)) else (some false))) = some r := by first | (rw [hy354]; with_reducible exact H) | (have H2_ := (Option.bind_some _ _).symm.trans H; rw [hy354]; with_reducible exact H2_) | (have H2_ := (Option.bind_some _ _).symm.trans H; with_reducible exact H2_) | with_reducible exact H | (rw [hy354]; exact H) | exact H
              have Ny354 := Aside0.mk hy354
              clear hy354
              replace H := Option.bind_eq_some_iff.mp H
              obtain ⟨⟨t357, t358⟩, A400, H⟩ := H
              replace H : (if true = true then (if t358 = 0 then ((partitalaw10_ints.f k1 t357 y348).bind fun t361 => (some t361)) else (some false)) else (some false)) = some r := H
              have A40 := Aside0.mk A400
              clear A400
              by_cases c41 : true = true
              · clear c41
                have H1 : (if t358 = 0 then ((partitalaw10_ints.f k1 t357 y348).bind fun t361 => (some t361)) else (some false)) = some r := by first | (rw [if_pos rfl] at H; exact H) | (rw [if_pos trivial] at H; exact H)
                clear H
                have H := H1
                clear H1
                by_cases c42 : t358 = 0
                · rw [if_pos c42] at H
                  have c42b0 : (t358 == 0) = true := beq_iff_eq.mpr c42
                  have c42b1 : (t358 != 0) = false := bne_eq_false_iff_eq.mpr c42
                  clear c42
                  replace H := Option.bind_eq_some_iff.mp H
                  obtain ⟨t361, A430, H⟩ := H
                  replace H : (some t361) = some r := H
                  have A43 := Aside0.mk A430
                  clear A430
                  obtain rfl := Option.some.inj H
                  obtain ⟨Ao44, co44, eo44⟩ := Kd.N_slice HO_13.out
                  subst eo44
                  go_wp2_with (first | ((with_reducible refine gate_callee (f := 21) rfl ?_); refine goesL_ (some 84) rfl rfl Try.func21 (by kernel_rfl) rfl #[.int .i64 (x13_1.length : Int), .int .i64 (wrap64 ((x13_1.length : Int) + (wrap64 (Int.tmod a3 10))))] rfl (by (try simp only [List.map_toArray, List.map_cons, List.map_nil]); first | done | rfl | (simp only [List.length_drop, List.length_take]; rfl)) ?_; (with_reducible refine (partitalaw10_rising.calls k1 (x13_1.length : Int) (wrap64 ((x13_1.length : Int) + (wrap64 (Int.tmod a3 10)))) t345 _ A36.out).mono ?_); rintro e w45 ⟨v346, rfl, ho0, hb⟩; refine ⟨_, rfl, ?_⟩; have n0_ := Aside0.mk (Kd.N_elder' (by (with_reducible repeat (first | apply Kd.N_alloc | apply Kd.N_drewN | apply Kd.N_drew)); exact HO_13.out) (Kd.R_base ho0) hb); have n1_ := Aside0.mk (Kd.R_elder' (by (with_reducible repeat (first | apply Kd.R_alloc | apply Kd.R_drewN | apply Kd.R_drew)); exact HO_14.out) (Kd.R_base ho0) hb); have n2_ := Aside0.mk (Kd.R_lower (Kd.R_new' ho0 (Kd.R_lt (by (with_reducible repeat (first | apply Kd.R_alloc | apply Kd.R_drewN | apply Kd.R_drew)); exact HO_14.out))) (below_size (by repeat (first | (with_reducible first | exact HB.out | apply below_alloc | apply pw_below_drewN | apply below_drew1) | exact HB.out)))); have n3_ := Aside0.mk (below_step (by repeat (first | (with_reducible first | exact HB.out | apply below_alloc | apply pw_below_drewN | apply below_drew1) | exact HB.out)) hb); clear HO_13; clear HO_14; clear HB; have HO_13 := n0_; have HO_14 := n1_; have HO347 := n2_; have HB := n3_; clear n0_ n1_ n2_ n3_; (try clear hb); (try clear hb2); (try clear hk); (try clear hi); (try clear ho0); obtain ⟨Ao47, co47, eo47⟩ := Kd.R_slice HO347.out; subst eo47) | ((with_reducible refine gate_builtin (b := .append) (xs := #[.tmp 75, .tmp 84]) rfl ?_); at_builtin; refine Kd.R_append_rows (Kd.int .i64) (w0 := w) w.heap.size rfl (.tmp 75) (.tmp 84) 31 3 (.int .i64 0) 8 rfl Try.underlying31 info3 rfl (by decide) (by omega) u14 x14_1 t345 _ _ _ (fun k_ => some k_ ≠ (.slice Ao47 t345.length co47 : Value).ownBlock) (fun _ => False) rfl rfl ?aO ?aR (fun _ _ h => h) (fun _ h => h.elim) ?aF ?aB ?aS ?aL ?_; (case aR => repeat (first | exact (Kd.R_reads' HO347.out).2.2 | (with_reducible refine Kd.C_alloc ?_ _) | (with_reducible refine Kd.C_drewN ?_ _) | (with_reducible refine Kd.C_drew ?_))); (case aB => exact (by repeat (first | (with_reducible first | exact HB.out | apply below_alloc | apply pw_below_drewN | apply below_drew1) | exact HB.out))); (case aF => exact (fun k_ hk => Kd.fresh' (Kd.R_lt (by (with_reducible repeat (first | apply Kd.R_alloc | apply Kd.R_drewN | apply Kd.R_drew)); exact HO347.out)) k_ hk)); (case aO => exact (by (with_reducible repeat (first | apply Kd.R_alloc | apply Kd.R_drewN | apply Kd.R_drew)); exact Kd.R_mono HO_14.out (fun _ hk => hk.2))); (case aS => exact (below_size (by repeat (first | (with_reducible first | exact HB.out | apply below_alloc | apply pw_below_drewN | apply below_drew1) | exact HB.out)))); (case aL => have := LMc37.out; omega); intro v349 w46 ho hb hg hat; rw [← Ny348.out] at ho; have n0_ := Aside0.mk (Kd.N_afterv (ok := (fun k_ => some k_ ≠ (.slice Ao47 t345.length co47 : Value).ownBlock)) (by (with_reducible repeat (first | apply Kd.N_alloc | apply Kd.N_drewN | apply Kd.N_drew)); exact Kd.N_mono HO_13.out (fun _ hk => ⟨hk.2, hk.1⟩)) hg hat); have n1_ := Aside0.mk (Kd.R_after (ok := (fun _ => True)) (by (with_reducible repeat (first | apply Kd.R_alloc | apply Kd.R_drewN | apply Kd.R_drew)); exact HO347.out) hg hat); have n2_ := Aside0.mk (hb); have n3_ := Aside0.mk (ho); clear HO_13; clear HO347; clear HB; clear HO_14; have HO_13 := n0_; have HO347 := n1_; have HB := n2_; have HO350 := n3_; clear n0_ n1_ n2_ n3_; clear ho hb hg hat) | ((with_reducible refine gate_callee (f := 20) rfl ?_); refine goesL_ (some 90) rfl rfl Try.func20 (by kernel_rfl) rfl #[.int .i64 (wrap64 (Int.tmod a3 10))] rfl (by (try simp only [List.map_toArray, List.map_cons, List.map_nil]); first | done | rfl | (simp only [List.length_drop, List.length_take]; rfl)) ?_; (with_reducible refine (partitalaw10_many.calls (wrap64 (Int.tmod a3 10)) t351 _ A38.out).mono ?_); rintro e w48 ⟨v352, rfl, ho0, hb⟩; refine ⟨_, rfl, ?_⟩; have n0_ := Aside0.mk (Kd.N_elder' (by (with_reducible repeat (first | apply Kd.N_alloc | apply Kd.N_drewN | apply Kd.N_drew)); exact HO_13.out) (by first | exact Kd.S_base ho0 | exact Kd.N_base ho0) hb); have n1_ := Aside0.mk (Kd.R_below (by (with_reducible repeat (first | apply Kd.R_alloc | apply Kd.R_drewN | apply Kd.R_drew)); exact HO347.out) hb); have n2_ := Aside0.mk (Kd.R_below (by (with_reducible repeat (first | apply Kd.R_alloc | apply Kd.R_drewN | apply Kd.R_drew)); exact HO350.out) hb); have n3_ := Aside0.mk (Kd.N_lower (Kd.N_mono (ok' := fun k_ => some k_ ≠ (.slice Ao44 x13_1.length co44 : Value).ownBlock ∧ some k_ ≠ (.slice Ao47 t345.length co47 : Value).ownBlock ∧ some k_ ≠ (v349 : Value).ownBlock) (Kd.S_N (Kd.S_bound ho0)) (fun k_ hk_ => ⟨(Kd.fresh' (Kd.N_lt (by (with_reducible repeat (first | apply Kd.N_alloc | apply Kd.N_drewN | apply Kd.N_drew)); exact HO_13.out)) k_ hk_.2.1), (Kd.fresh' (Kd.R_lt (by (with_reducible repeat (first | apply Kd.R_alloc | apply Kd.R_drewN | apply Kd.R_drew)); exact HO347.out)) k_ hk_.2.1), (Kd.fresh' (Kd.R_lt (by (with_reducible repeat (first | apply Kd.R_alloc | apply Kd.R_drewN | apply Kd.R_drew)); exact HO350.out)) k_ hk_.2.1)⟩)) (below_size (by repeat (first | (with_reducible first | exact HB.out | apply below_alloc | apply pw_below_drewN | apply below_drew1) | exact HB.out)))); have n4_ := Aside0.mk (below_step (by repeat (first | (with_reducible first | exact HB.out | apply below_alloc | apply pw_below_drewN | apply below_drew1) | exact HB.out)) hb); clear HO_13; clear HO347; clear HO350; clear HB; have HO_13 := n0_; have HO347 := n1_; have HO350 := n2_; have HO353 := n3_; have HB := n4_; clear n0_ n1_ n2_ n3_ n4_; (try clear hb); (try clear hb2); (try clear hk); (try clear hi); (try clear ho0); obtain ⟨Ao50, co50, eo50⟩ := Kd.N_slice HO353.out; subst eo50) | ((with_reducible refine gate_builtin (b := .append) (xs := #[.tmp 86, .tmp 90]) rfl ?_); at_builtin; refine Kd.N_append_rows k38 (w0 := w) w.heap.size rfl (.tmp 86) (.tmp 90) 22 38 (.agg #[(.bool false), (.int .i64 0), (.slice none 0 0), (.bool false), (.bool false), (.bool false), (.bool false), (.int .i64 0)]) 56 rfl Try.underlying22 info38 rfl (by decide) (by omega) (.slice Ao44 x13_1.length co44) x13_1 t351 _ _ _ (fun k_ => some k_ ≠ (.slice Ao47 t345.length co47 : Value).ownBlock ∧ some k_ ≠ (v349 : Value).ownBlock) (fun k_ => ((fun k_ => some k_ ≠ (.slice Ao47 t345.length co47 : Value).ownBlock ∧ some k_ ≠ (v349 : Value).ownBlock)) k_ ∧ some k_ ≠ (.slice Ao44 x13_1.length co44 : Value).ownBlock) rfl rfl ?aO ?aR (fun _ hk => hk) ?aF ?aB ?aS ?aL ?_; (case aR => exact (by skip; exact Kd.N_F (Kd.N_mono (ok' := (fun k_ => ((fun k_ => some k_ ≠ (.slice Ao47 t345.length co47 : Value).ownBlock ∧ some k_ ≠ (v349 : Value).ownBlock)) k_ ∧ some k_ ≠ (.slice Ao44 x13_1.length co44 : Value).ownBlock)) (HO353.out) (fun k_ hk => ⟨⟨hk.2.1, hk.2.2⟩, hk.1⟩)))); (case aB => exact (by repeat (first | (with_reducible first | exact HB.out | apply below_alloc | apply pw_below_drewN | apply below_drew1) | exact HB.out))); (case aF => exact (fun k_ hk => ⟨Kd.fresh' (Kd.R_lt (by (with_reducible repeat (first | apply Kd.R_alloc | apply Kd.R_drewN | apply Kd.R_drew)); exact HO347.out)) k_ hk, Kd.fresh' (Kd.R_lt (by (with_reducible repeat (first | apply Kd.R_alloc | apply Kd.R_drewN | apply Kd.R_drew)); exact HO350.out)) k_ hk⟩)); (case aO => exact (by (with_reducible repeat (first | apply Kd.N_alloc | apply Kd.N_drewN | apply Kd.N_drew)); exact Kd.N_mono HO_13.out (fun _ hk => ⟨hk.1.1, hk.1.2⟩))); (case aS => exact (below_size (by repeat (first | (with_reducible first | exact HB.out | apply below_alloc | apply pw_below_drewN | apply below_drew1) | exact HB.out)))); (case aL => have := LMc39.out; omega); intro v355 w49 ho hb hg hat; rw [← Ny354.out] at ho; have n0_ := Aside0.mk (Kd.R_over' (by (with_reducible repeat (first | apply Kd.R_alloc | apply Kd.R_drewN | apply Kd.R_drew)); exact HO347.out) (Kd.N_typed (by (with_reducible repeat (first | apply Kd.N_alloc | apply Kd.N_drewN | apply Kd.N_drew)); exact HO_13.out)) (by decide) hg); have n1_ := Aside0.mk (Kd.R_over' (by (with_reducible repeat (first | apply Kd.R_alloc | apply Kd.R_drewN | apply Kd.R_drew)); exact HO350.out) (Kd.N_typed (by (with_reducible repeat (first | apply Kd.N_alloc | apply Kd.N_drewN | apply Kd.N_drew)); exact HO_13.out)) (by decide) hg); have n2_ := Aside0.mk (Kd.N_afterv (ok := (fun k_ => some k_ ≠ (.slice Ao47 t345.length co47 : Value).ownBlock ∧ some k_ ≠ (v349 : Value).ownBlock)) (by (with_reducible repeat (first | apply Kd.N_alloc | apply Kd.N_drewN | apply Kd.N_drew)); exact Kd.N_mono HO353.out (fun _ hk => ⟨⟨hk.2.1, hk.2.2⟩, hk.1⟩)) hg hat); have n3_ := Aside0.mk (hb); have n4_ := Aside0.mk (ho); clear HO347; clear HO350; clear HO353; clear HB; clear HO_13; have HO347 := n0_; have HO350 := n1_; have HO353 := n2_; have HB := n3_; have HO356 := n4_; clear n0_ n1_ n2_ n3_ n4_; clear ho hb hg hat; obtain ⟨Ao51, co51, eo51⟩ := Kd.N_slice HO356.out; subst eo51) | ((with_reducible refine gate_callee (f := 15) rfl ?_); refine goesL_ (some 94) rfl rfl Try.func15 (by kernel_rfl) rfl #[.slice Ao51 y354.length co51] rfl (by (try simp only [List.map_toArray, List.map_cons, List.map_nil]); first | done | rfl | (simp only [List.length_drop, List.length_take]; rfl)) ?_; (with_reducible refine (turns_Unfold.calls k1 _ _ y354 t357 t358 _ ?side1 ?side2 A40.out).mono ?_); (case side1 => repeat (first | exact (Kd.N_reads' HO356.out).2.2 | (with_reducible refine Kd.C_alloc ?_ _) | (with_reducible refine Kd.C_drewN ?_ _) | (with_reducible refine Kd.C_drew ?_))); (case side2 => exact (Kd.N_reads' HO356.out).2.1); rintro e w52 ⟨v359, rfl, ho0, hb⟩; refine ⟨_, rfl, ?_⟩; have n0_ := Aside0.mk (Kd.R_elder' (by (with_reducible repeat (first | apply Kd.R_alloc | apply Kd.R_drewN | apply Kd.R_drew)); exact HO347.out) (Kd.R_base ho0) hb); have n1_ := Aside0.mk (Kd.R_elder' (by (with_reducible repeat (first | apply Kd.R_alloc | apply Kd.R_drewN | apply Kd.R_drew)); exact HO350.out) (Kd.R_base ho0) hb); have n2_ := Aside0.mk (Kd.N_elder' (by (with_reducible repeat (first | apply Kd.N_alloc | apply Kd.N_drewN | apply Kd.N_drew)); exact HO353.out) (Kd.R_base ho0) hb); have n3_ := Aside0.mk (Kd.N_elder' (by (with_reducible repeat (first | apply Kd.N_alloc | apply Kd.N_drewN | apply Kd.N_drew)); exact HO356.out) (Kd.R_base ho0) hb); have n4_ := Aside0.mk (Kd.R_lower (Kd.R_new' (Kd.R_new' ho0 (Kd.R_lt (by (with_reducible repeat (first | apply Kd.R_alloc | apply Kd.R_drewN | apply Kd.R_drew)); exact HO347.out))) (Kd.R_lt (by (with_reducible repeat (first | apply Kd.R_alloc | apply Kd.R_drewN | apply Kd.R_drew)); exact HO350.out))) (below_size (by repeat (first | (with_reducible first | exact HB.out | apply below_alloc | apply pw_below_drewN | apply below_drew1) | exact HB.out)))); have n5_ := Aside0.mk (below_step (by repeat (first | (with_reducible first | exact HB.out | apply below_alloc | apply pw_below_drewN | apply below_drew1) | exact HB.out)) hb); clear HO347; clear HO350; clear HO353; clear HO356; clear HB; have HO347 := n0_; have HO350 := n1_; have HO353 := n2_; have HO356 := n3_; have HO360 := n4_; have HB := n5_; clear n0_ n1_ n2_ n3_ n4_ n5_; (try clear hb); (try clear hb2); (try clear hk); (try clear hi); (try clear ho0); obtain ⟨Ao53, co53, eo53⟩ := Kd.R_slice HO360.out; subst eo53; obtain ⟨Ao54, co54, eo54⟩ := Kd.R_slice HO350.out; subst eo54) | (go_at_call 19; (with_reducible refine (partitalaw10_ints.calls k1 _ _ t357 _ _ y348 t361 _ ?side1 ?side2 ?side3 ?side4 A43.out).mono ?_); (case side1 => repeat (first | exact (Kd.R_reads' HO360.out).2.2 | (with_reducible refine Kd.C_alloc ?_ _) | (with_reducible refine Kd.C_drewN ?_ _) | (with_reducible refine Kd.C_drew ?_))); (case side2 => exact (Kd.R_reads' HO360.out).2.1); (case side3 => repeat (first | exact (Kd.R_reads' HO350.out).2.2 | (with_reducible refine Kd.C_alloc ?_ _) | (with_reducible refine Kd.C_drewN ?_ _) | (with_reducible refine Kd.C_drew ?_))); (case side4 => exact (Kd.R_reads' HO350.out).2.1); rintro e w' ⟨rfl, ⟨nd, rfl⟩⟩))
                  go_ret
                  exact ⟨by first | rfl | (simp [errW_none, errW_some] <;> rfl) | (simp [*, errW_none, errW_some] <;> rfl), by repeat (first | (with_reducible first | exact HB.out | apply below_alloc | apply pw_below_drewN | apply below_drew1) | exact HB.out)⟩
                · rw [if_neg c42] at H
                  have c42b0 : (t358 == 0) = false := beq_eq_false_iff_ne.mpr c42
                  have c42b1 : (t358 != 0) = true := bne_iff_ne.mpr c42
                  obtain rfl := Option.some.inj H
                  obtain ⟨Ao55, co55, eo55⟩ := Kd.N_slice HO_13.out
                  subst eo55
                  go_wp2_with (first | ((with_reducible refine gate_callee (f := 21) rfl ?_); refine goesL_ (some 84) rfl rfl Try.func21 (by kernel_rfl) rfl #[.int .i64 (x13_1.length : Int), .int .i64 (wrap64 ((x13_1.length : Int) + (wrap64 (Int.tmod a3 10))))] rfl (by (try simp only [List.map_toArray, List.map_cons, List.map_nil]); first | done | rfl | (simp only [List.length_drop, List.length_take]; rfl)) ?_; (with_reducible refine (partitalaw10_rising.calls k1 (x13_1.length : Int) (wrap64 ((x13_1.length : Int) + (wrap64 (Int.tmod a3 10)))) t345 _ A36.out).mono ?_); rintro e w56 ⟨v346, rfl, ho0, hb⟩; refine ⟨_, rfl, ?_⟩; have n0_ := Aside0.mk (Kd.N_elder' (by (with_reducible repeat (first | apply Kd.N_alloc | apply Kd.N_drewN | apply Kd.N_drew)); exact HO_13.out) (Kd.R_base ho0) hb); have n1_ := Aside0.mk (Kd.R_elder' (by (with_reducible repeat (first | apply Kd.R_alloc | apply Kd.R_drewN | apply Kd.R_drew)); exact HO_14.out) (Kd.R_base ho0) hb); have n2_ := Aside0.mk (Kd.R_lower (Kd.R_new' ho0 (Kd.R_lt (by (with_reducible repeat (first | apply Kd.R_alloc | apply Kd.R_drewN | apply Kd.R_drew)); exact HO_14.out))) (below_size (by repeat (first | (with_reducible first | exact HB.out | apply below_alloc | apply pw_below_drewN | apply below_drew1) | exact HB.out)))); have n3_ := Aside0.mk (below_step (by repeat (first | (with_reducible first | exact HB.out | apply below_alloc | apply pw_below_drewN | apply below_drew1) | exact HB.out)) hb); clear HO_13; clear HO_14; clear HB; have HO_13 := n0_; have HO_14 := n1_; have HO347 := n2_; have HB := n3_; clear n0_ n1_ n2_ n3_; (try clear hb); (try clear hb2); (try clear hk); (try clear hi); (try clear ho0); obtain ⟨Ao58, co58, eo58⟩ := Kd.R_slice HO347.out; subst eo58) | ((with_reducible refine gate_builtin (b := .append) (xs := #[.tmp 75, .tmp 84]) rfl ?_); at_builtin; refine Kd.R_append_rows (Kd.int .i64) (w0 := w) w.heap.size rfl (.tmp 75) (.tmp 84) 31 3 (.int .i64 0) 8 rfl Try.underlying31 info3 rfl (by decide) (by omega) u14 x14_1 t345 _ _ _ (fun k_ => some k_ ≠ (.slice Ao58 t345.length co58 : Value).ownBlock) (fun _ => False) rfl rfl ?aO ?aR (fun _ _ h => h) (fun _ h => h.elim) ?aF ?aB ?aS ?aL ?_; (case aR => repeat (first | exact (Kd.R_reads' HO347.out).2.2 | (with_reducible refine Kd.C_alloc ?_ _) | (with_reducible refine Kd.C_drewN ?_ _) | (with_reducible refine Kd.C_drew ?_))); (case aB => exact (by repeat (first | (with_reducible first | exact HB.out | apply below_alloc | apply pw_below_drewN | apply below_drew1) | exact HB.out))); (case aF => exact (fun k_ hk => Kd.fresh' (Kd.R_lt (by (with_reducible repeat (first | apply Kd.R_alloc | apply Kd.R_drewN | apply Kd.R_drew)); exact HO347.out)) k_ hk)); (case aO => exact (by (with_reducible repeat (first | apply Kd.R_alloc | apply Kd.R_drewN | apply Kd.R_drew)); exact Kd.R_mono HO_14.out (fun _ hk => hk.2))); (case aS => exact (below_size (by repeat (first | (with_reducible first | exact HB.out | apply below_alloc | apply pw_below_drewN | apply below_drew1) | exact HB.out)))); (case aL => have := LMc37.out; omega); intro v349 w57 ho hb hg hat; rw [← Ny348.out] at ho; have n0_ := Aside0.mk (Kd.N_afterv (ok := (fun k_ => some k_ ≠ (.slice Ao58 t345.length co58 : Value).ownBlock)) (by (with_reducible repeat (first | apply Kd.N_alloc | apply Kd.N_drewN | apply Kd.N_drew)); exact Kd.N_mono HO_13.out (fun _ hk => ⟨hk.2, hk.1⟩)) hg hat); have n1_ := Aside0.mk (Kd.R_after (ok := (fun _ => True)) (by (with_reducible repeat (first | apply Kd.R_alloc | apply Kd.R_drewN | apply Kd.R_drew)); exact HO347.out) hg hat); have n2_ := Aside0.mk (hb); have n3_ := Aside0.mk (ho); clear HO_13; clear HO347; clear HB; clear HO_14; have HO_13 := n0_; have HO347 := n1_; have HB := n2_; have HO350 := n3_; clear n0_ n1_ n2_ n3_; clear ho hb hg hat) | ((with_reducible refine gate_callee (f := 20) rfl ?_); refine goesL_ (some 90) rfl rfl Try.func20 (by kernel_rfl) rfl #[.int .i64 (wrap64 (Int.tmod a3 10))] rfl (by (try simp only [List.map_toArray, List.map_cons, List.map_nil]); first | done | rfl | (simp only [List.length_drop, List.length_take]; rfl)) ?_; (with_reducible refine (partitalaw10_many.calls (wrap64 (Int.tmod a3 10)) t351 _ A38.out).mono ?_); rintro e w59 ⟨v352, rfl, ho0, hb⟩; refine ⟨_, rfl, ?_⟩; have n0_ := Aside0.mk (Kd.N_elder' (by (with_reducible repeat (first | apply Kd.N_alloc | apply Kd.N_drewN | apply Kd.N_drew)); exact HO_13.out) (by first | exact Kd.S_base ho0 | exact Kd.N_base ho0) hb); have n1_ := Aside0.mk (Kd.R_below (by (with_reducible repeat (first | apply Kd.R_alloc | apply Kd.R_drewN | apply Kd.R_drew)); exact HO347.out) hb); have n2_ := Aside0.mk (Kd.R_below (by (with_reducible repeat (first | apply Kd.R_alloc | apply Kd.R_drewN | apply Kd.R_drew)); exact HO350.out) hb); have n3_ := Aside0.mk (Kd.N_lower (Kd.N_mono (ok' := fun k_ => some k_ ≠ (.slice Ao55 x13_1.length co55 : Value).ownBlock ∧ some k_ ≠ (.slice Ao58 t345.length co58 : Value).ownBlock ∧ some k_ ≠ (v349 : Value).ownBlock) (Kd.S_N (Kd.S_bound ho0)) (fun k_ hk_ => ⟨(Kd.fresh' (Kd.N_lt (by (with_reducible repeat (first | apply Kd.N_alloc | apply Kd.N_drewN | apply Kd.N_drew)); exact HO_13.out)) k_ hk_.2.1), (Kd.fresh' (Kd.R_lt (by (with_reducible repeat (first | apply Kd.R_alloc | apply Kd.R_drewN | apply Kd.R_drew)); exact HO347.out)) k_ hk_.2.1), (Kd.fresh' (Kd.R_lt (by (with_reducible repeat (first | apply Kd.R_alloc | apply Kd.R_drewN | apply Kd.R_drew)); exact HO350.out)) k_ hk_.2.1)⟩)) (below_size (by repeat (first | (with_reducible first | exact HB.out | apply below_alloc | apply pw_below_drewN | apply below_drew1) | exact HB.out)))); have n4_ := Aside0.mk (below_step (by repeat (first | (with_reducible first | exact HB.out | apply below_alloc | apply pw_below_drewN | apply below_drew1) | exact HB.out)) hb); clear HO_13; clear HO347; clear HO350; clear HB; have HO_13 := n0_; have HO347 := n1_; have HO350 := n2_; have HO353 := n3_; have HB := n4_; clear n0_ n1_ n2_ n3_ n4_; (try clear hb); (try clear hb2); (try clear hk); (try clear hi); (try clear ho0); obtain ⟨Ao61, co61, eo61⟩ := Kd.N_slice HO353.out; subst eo61) | ((with_reducible refine gate_builtin (b := .append) (xs := #[.tmp 86, .tmp 90]) rfl ?_); at_builtin; refine Kd.N_append_rows k38 (w0 := w) w.heap.size rfl (.tmp 86) (.tmp 90) 22 38 (.agg #[(.bool false), (.int .i64 0), (.slice none 0 0), (.bool false), (.bool false), (.bool false), (.bool false), (.int .i64 0)]) 56 rfl Try.underlying22 info38 rfl (by decide) (by omega) (.slice Ao55 x13_1.length co55) x13_1 t351 _ _ _ (fun k_ => some k_ ≠ (.slice Ao58 t345.length co58 : Value).ownBlock ∧ some k_ ≠ (v349 : Value).ownBlock) (fun k_ => ((fun k_ => some k_ ≠ (.slice Ao58 t345.length co58 : Value).ownBlock ∧ some k_ ≠ (v349 : Value).ownBlock)) k_ ∧ some k_ ≠ (.slice Ao55 x13_1.length co55 : Value).ownBlock) rfl rfl ?aO ?aR (fun _ hk => hk) ?aF ?aB ?aS ?aL ?_; (case aR => exact (by skip; exact Kd.N_F (Kd.N_mono (ok' := (fun k_ => ((fun k_ => some k_ ≠ (.slice Ao58 t345.length co58 : Value).ownBlock ∧ some k_ ≠ (v349 : Value).ownBlock)) k_ ∧ some k_ ≠ (.slice Ao55 x13_1.length co55 : Value).ownBlock)) (HO353.out) (fun k_ hk => ⟨⟨hk.2.1, hk.2.2⟩, hk.1⟩)))); (case aB => exact (by repeat (first | (with_reducible first | exact HB.out | apply below_alloc | apply pw_below_drewN | apply below_drew1) | exact HB.out))); (case aF => exact (fun k_ hk => ⟨Kd.fresh' (Kd.R_lt (by (with_reducible repeat (first | apply Kd.R_alloc | apply Kd.R_drewN | apply Kd.R_drew)); exact HO347.out)) k_ hk, Kd.fresh' (Kd.R_lt (by (with_reducible repeat (first | apply Kd.R_alloc | apply Kd.R_drewN | apply Kd.R_drew)); exact HO350.out)) k_ hk⟩)); (case aO => exact (by (with_reducible repeat (first | apply Kd.N_alloc | apply Kd.N_drewN | apply Kd.N_drew)); exact Kd.N_mono HO_13.out (fun _ hk => ⟨hk.1.1, hk.1.2⟩))); (case aS => exact (below_size (by repeat (first | (with_reducible first | exact HB.out | apply below_alloc | apply pw_below_drewN | apply below_drew1) | exact HB.out)))); (case aL => have := LMc39.out; omega); intro v355 w60 ho hb hg hat; rw [← Ny354.out] at ho; have n0_ := Aside0.mk (Kd.R_over' (by (with_reducible repeat (first | apply Kd.R_alloc | apply Kd.R_drewN | apply Kd.R_drew)); exact HO347.out) (Kd.N_typed (by (with_reducible repeat (first | apply Kd.N_alloc | apply Kd.N_drewN | apply Kd.N_drew)); exact HO_13.out)) (by decide) hg); have n1_ := Aside0.mk (Kd.R_over' (by (with_reducible repeat (first | apply Kd.R_alloc | apply Kd.R_drewN | apply Kd.R_drew)); exact HO350.out) (Kd.N_typed (by (with_reducible repeat (first | apply Kd.N_alloc | apply Kd.N_drewN | apply Kd.N_drew)); exact HO_13.out)) (by decide) hg); have n2_ := Aside0.mk (Kd.N_afterv (ok := (fun k_ => some k_ ≠ (.slice Ao58 t345.length co58 : Value).ownBlock ∧ some k_ ≠ (v349 : Value).ownBlock)) (by (with_reducible repeat (first | apply Kd.N_alloc | apply Kd.N_drewN | apply Kd.N_drew)); exact Kd.N_mono HO353.out (fun _ hk => ⟨⟨hk.2.1, hk.2.2⟩, hk.1⟩)) hg hat); have n3_ := Aside0.mk (hb); have n4_ := Aside0.mk (ho); clear HO347; clear HO350; clear HO353; clear HB; clear HO_13; have HO347 := n0_; have HO350 := n1_; have HO353 := n2_; have HB := n3_; have HO356 := n4_; clear n0_ n1_ n2_ n3_ n4_; clear ho hb hg hat; obtain ⟨Ao62, co62, eo62⟩ := Kd.N_slice HO356.out; subst eo62) | ((with_reducible refine gate_callee (f := 15) rfl ?_); refine goesL_ (some 94) rfl rfl Try.func15 (by kernel_rfl) rfl #[.slice Ao62 y354.length co62] rfl (by (try simp only [List.map_toArray, List.map_cons, List.map_nil]); first | done | rfl | (simp only [List.length_drop, List.length_take]; rfl)) ?_; (with_reducible refine (turns_Unfold.calls k1 _ _ y354 t357 t358 _ ?side1 ?side2 A40.out).mono ?_); (case side1 => repeat (first | exact (Kd.N_reads' HO356.out).2.2 | (with_reducible refine Kd.C_alloc ?_ _) | (with_reducible refine Kd.C_drewN ?_ _) | (with_reducible refine Kd.C_drew ?_))); (case side2 => exact (Kd.N_reads' HO356.out).2.1); rintro e w63 ⟨v359, rfl, ho0, hb⟩; refine ⟨_, rfl, ?_⟩; have n0_ := Aside0.mk (Kd.R_elder' (by (with_reducible repeat (first | apply Kd.R_alloc | apply Kd.R_drewN | apply Kd.R_drew)); exact HO347.out) (Kd.R_base ho0) hb); have n1_ := Aside0.mk (Kd.R_elder' (by (with_reducible repeat (first | apply Kd.R_alloc | apply Kd.R_drewN | apply Kd.R_drew)); exact HO350.out) (Kd.R_base ho0) hb); have n2_ := Aside0.mk (Kd.N_elder' (by (with_reducible repeat (first | apply Kd.N_alloc | apply Kd.N_drewN | apply Kd.N_drew)); exact HO353.out) (Kd.R_base ho0) hb); have n3_ := Aside0.mk (Kd.N_elder' (by (with_reducible repeat (first | apply Kd.N_alloc | apply Kd.N_drewN | apply Kd.N_drew)); exact HO356.out) (Kd.R_base ho0) hb); have n4_ := Aside0.mk (Kd.R_lower (Kd.R_new' (Kd.R_new' ho0 (Kd.R_lt (by (with_reducible repeat (first | apply Kd.R_alloc | apply Kd.R_drewN | apply Kd.R_drew)); exact HO347.out))) (Kd.R_lt (by (with_reducible repeat (first | apply Kd.R_alloc | apply Kd.R_drewN | apply Kd.R_drew)); exact HO350.out))) (below_size (by repeat (first | (with_reducible first | exact HB.out | apply below_alloc | apply pw_below_drewN | apply below_drew1) | exact HB.out)))); have n5_ := Aside0.mk (below_step (by repeat (first | (with_reducible first | exact HB.out | apply below_alloc | apply pw_below_drewN | apply below_drew1) | exact HB.out)) hb); clear HO347; clear HO350; clear HO353; clear HO356; clear HB; have HO347 := n0_; have HO350 := n1_; have HO353 := n2_; have HO356 := n3_; have HO360 := n4_; have HB := n5_; clear n0_ n1_ n2_ n3_ n4_ n5_; (try clear hb); (try clear hb2); (try clear hk); (try clear hi); (try clear ho0)))
                  go_ret
                  exact ⟨by first | rfl | (simp [errW_none, errW_some] <;> rfl) | (simp [*, errW_none, errW_some] <;> rfl), by repeat (first | (with_reducible first | exact HB.out | apply below_alloc | apply pw_below_drewN | apply below_drew1) | exact HB.out)⟩
              · exact absurd rfl c41
            · rw [if_neg c39] at H
              exact absurd H (by simp)
          · rw [if_neg c37] at H
            exact absurd H (by simp)
  · replace c6 := Bool.eq_false_iff.mpr c6
    subst c6
    have H1 : (some false) = some r := by rw [if_neg (show ¬ (false = true) by decide)] at H; exact H
    clear H
    have H := H1
    clear H1
    obtain rfl := Option.some.inj H
    go_enter Try.func6, Try.ntmps6
    go_wp2_with (first | ((with_reducible refine gate_callee (f := 11) rfl ?_); refine goesL_ (some 19) rfl rfl Try.func11 (by kernel_rfl) rfl #[] rfl (by (try simp only [List.map_toArray, List.map_cons, List.map_nil]); first | done | rfl | (simp only [List.length_drop, List.length_take]; rfl)) ?_; (with_reducible refine (partitalaw10_examples.calls k  false _ A5.out).mono ?_); rintro e w73 ⟨rfl, hb⟩; refine ⟨_, rfl, ?_⟩; have n0_ := Aside0.mk (below_step (by repeat (first | (with_reducible first | exact HB.out | apply below_alloc | apply pw_below_drewN | apply below_drew1) | exact HB.out)) hb); clear HB; have HB := n0_; clear n0_; (try clear hb); (try clear hb2); (try clear hk); (try clear hi)))
    go_ret
    exact ⟨by first | rfl | (simp [errW_none, errW_some] <;> rfl) | (simp [*, errW_none, errW_some] <;> rfl), by repeat (first | (with_reducible first | exact HB.out | apply below_alloc | apply pw_below_drewN | apply below_drew1) | exact HB.out)⟩

/-- THE ONE PURE STATEMENT of partitalaw10_TurnsEndings: yours. -/
def partitalaw10_TurnsEndings.Pure : Prop := ∀ (a0 : Int) (a1 : Int) (a2 : Int) (a3 : Int), (Lit.int .u8 a0).wf = true → (Lit.int .u8 a1).wf = true → (Lit.int .u8 a2).wf = true → (Lit.int .u8 a3).wf = true → ∃ k, partitalaw10_TurnsEndings.f k a0 a1 a2 a3 = some true
theorem partitalaw10_TurnsEndings.walk (P : partitalaw10_TurnsEndings.Pure) (a0 : Int) (a1 : Int) (a2 : Int) (a3 : Int) (w : World) (w0 : (Lit.int .u8 a0).wf = true) (w1 : (Lit.int .u8 a1).wf = true) (w2 : (Lit.int .u8 a2).wf = true) (w3 : (Lit.int .u8 a3).wf = true) :
    Calls Try.prog 6 #[.int .u8 a0, .int .u8 a1, .int .u8 a2, .int .u8 a3] w fun e w' => e = .returned (.bool true) ∧ Below w.heap.size w w' := by
  obtain ⟨k, h⟩ := P a0 a1 a2 a3 w0 w1 w2 w3
  refine (partitalaw10_TurnsEndings.calls k a0 a1 a2 a3 true w h).mono ?_
  rintro e w' ⟨rfl, hd⟩
  exact ⟨rfl, hd⟩

end Go.Proofs.Ytendmmagjjhfnaa.M
