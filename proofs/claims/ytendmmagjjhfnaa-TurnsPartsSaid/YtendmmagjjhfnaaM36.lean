/- Printed by a program of this session (wip/tools), out of the translation: functions with the same answers as the Go code, and the contracts of the code. Lean checks it. -/
import Derived.Test.YtendmmagjjhfnaaM0
import Derived.Test.YtendmmagjjhfnaaM19
import Derived.Test.YtendmmagjjhfnaaM21
import Derived.Test.YtendmmagjjhfnaaM22
import Derived.Test.YtendmmagjjhfnaaM24
namespace Go.Proofs.Ytendmmagjjhfnaa.M
open Go.RowKit Go.Proofs.YtendmmagjjhfnaaW.PrintWords Go.Proofs.YtendmmagjjhfnaaW.PrintLast Go.Proofs.YtendmmagjjhfnaaW.PrintMore
attribute [local go_sem] max2_int min2_int max_two min_two max_three min_three max_four min_four   -- for this text's walks alone
set_option linter.unusedVariables false
set_option linter.unusedSimpArgs false

/-! ### partitalaw10_TurnsParts: function 8 -/
mutual
def partitalaw10_TurnsParts.j0 : Nat → Bool → List (S38) → List Int → Int → List Int → Int → List Int → Int → Bool → Option (Bool)
  | 0, _, _, _, _, _, _, _, _, _ => none
  | k + 1, x5, x6, x8, x9, x10, x11, x12, x13, x53 => if x53 = true then (if x5 = true then (if x13 = 101 then (if x9 = 0 then (if x11 = 0 then (some true) else (some (x11 == 101))) else (if x9 = 101 then (if x11 = 0 then (some true) else (some (x11 == 101))) else (some false))) else (some false)) else (some false)) else (if ([] : List Int).length + x8.length < 17592186044416 then (partitalaw10_TurnsParts.l0 k x5 x6 x10 x12 x13 (([] : List Int) ++ x8) 0) else (none))
def partitalaw10_TurnsParts.l0 : Nat → Bool → List (S38) → List Int → List Int → Int → List Int → Int → Option (Bool)
  | 0, _, _, _, _, _, _, _ => none
  | k + 1, x5, x6, x10, x12, x13, x14, x15 => if x15 < (x10.length : Int) then (if 0 ≤ x15 then (if x14.length < 17592186044416 then (partitalaw10_TurnsParts.l0 k x5 x6 x10 x12 x13 (x14 ++ [wrap64 ((x6.length : Int) + (rd x10 x15))]) (wrap64 (x15 + 1))) else (none)) else (none)) else (if (x14.length : Int) > 2000 then (if x5 = true then (some (x13 == 101)) else (some false)) else (if x5 = true then (if x13 = 0 then ((partitalaw10_ints.f k x12 x14).bind fun t442 => (some t442)) else (some false)) else (some false)))
end
def partitalaw10_TurnsParts.f (k : Nat) (l0 : List (S46)) (l1 : List (S46)) : Option (Bool) := (partitalaw10_examples.f k).bind fun t409 => (if t409 = true then ((partitalaw10_Made.f k l0 0 0 0 0).bind fun t410 => ((partitalaw10_Made.f k l1 0 0 0 0).bind fun t413 => (if (t413.length : Int) = 0 then (some t409) else (if 0 < (t413.length : Int) then ((some (t413.set (0 : Int).toNat (⟨true, (rd_T38 t413 0).f1, (rd_T38 t413 0).f2, (rd_T38 t413 0).f3, (rd_T38 t413 0).f4, (rd_T38 t413 0).f5, (rd_T38 t413 0).f6, (rd_T38 t413 0).f7⟩ : S38) : List (S38))).bind fun y416 => ((turns_Unfold.f k t410).bind fun bt417 => ((turns_Unfold.f k y416).bind fun bt421 => (if ([] : List (S38)).length + t410.length < 2513169434916 then ((some (([] : List (S38)) ++ t410 : List (S38))).bind fun y425 => (if y425.length + y416.length < 2513169434916 then ((turns_Unfold.f k (y425 ++ y416)).bind fun bt431 => (if bt417.2 = 0 then (partitalaw10_TurnsParts.j0 k t409 t410 bt417.1 bt417.2 bt421.1 bt421.2 bt431.1 bt431.2 (bt421.2 != 0)) else (partitalaw10_TurnsParts.j0 k t409 t410 bt417.1 bt417.2 bt421.1 bt421.2 bt431.1 bt431.2 true))) else (none))) else (none))))) else (none))))) else (some false))
theorem partitalaw10_TurnsParts.mono_l : ∀ k, (∀ y0 y1 y2 y3 y4 y5 y6 y7 y8, LeO (partitalaw10_TurnsParts.j0 k y0 y1 y2 y3 y4 y5 y6 y7 y8) (partitalaw10_TurnsParts.j0 (k + 1) y0 y1 y2 y3 y4 y5 y6 y7 y8)) ∧ (∀ y0 y1 y2 y3 y4 y5 y6, LeO (partitalaw10_TurnsParts.l0 k y0 y1 y2 y3 y4 y5 y6) (partitalaw10_TurnsParts.l0 (k + 1) y0 y1 y2 y3 y4 y5 y6))
  | 0 => ⟨fun _ _ _ _ _ _ _ _ _ r h => by simp [partitalaw10_TurnsParts.j0] at h, fun _ _ _ _ _ _ _ r h => by simp [partitalaw10_TurnsParts.l0] at h⟩
  | k + 1 => by
    obtain ⟨ih0, ih1⟩ := partitalaw10_TurnsParts.mono_l k
    refine ⟨?_, ?_⟩
    · intro y0 y1 y2 y3 y4 y5 y6 y7 y8
      unfold partitalaw10_TurnsParts.j0
      repeat' first
      | (with_reducible exact ih0 _ _ _ _ _ _ _ _ _)
      | (with_reducible exact ih1 _ _ _ _ _ _ _)
      | (with_reducible exact partitalaw10_Made.mono _ _ _ _ _ _)
      | (with_reducible exact partitalaw10_examples.mono _)
      | (with_reducible exact partitalaw10_ints.mono _ _ _)
      | (with_reducible exact turns_Unfold.mono _ _)
      | (with_reducible exact LeO.refl _)
      | (with_reducible exact LeO.none _)
      | (with_reducible refine LeO.ite ?_ ?_)
      | (with_reducible refine LeO.bind ?_ (fun _ => ?_))
      | exact ih0 _ _ _ _ _ _ _ _ _
      | exact ih1 _ _ _ _ _ _ _
      | exact partitalaw10_Made.mono _ _ _ _ _ _
      | exact partitalaw10_examples.mono _
      | exact partitalaw10_ints.mono _ _ _
      | exact turns_Unfold.mono _ _
      | exact LeO.none _
      | refine LeO.ite ?_ ?_
      | refine LeO.bind ?_ (fun _ => ?_)
    · intro y0 y1 y2 y3 y4 y5 y6
      unfold partitalaw10_TurnsParts.l0
      repeat' first
      | (with_reducible exact ih0 _ _ _ _ _ _ _ _ _)
      | (with_reducible exact ih1 _ _ _ _ _ _ _)
      | (with_reducible exact partitalaw10_Made.mono _ _ _ _ _ _)
      | (with_reducible exact partitalaw10_examples.mono _)
      | (with_reducible exact partitalaw10_ints.mono _ _ _)
      | (with_reducible exact turns_Unfold.mono _ _)
      | (with_reducible exact LeO.refl _)
      | (with_reducible exact LeO.none _)
      | (with_reducible refine LeO.ite ?_ ?_)
      | (with_reducible refine LeO.bind ?_ (fun _ => ?_))
      | exact ih0 _ _ _ _ _ _ _ _ _
      | exact ih1 _ _ _ _ _ _ _
      | exact partitalaw10_Made.mono _ _ _ _ _ _
      | exact partitalaw10_examples.mono _
      | exact partitalaw10_ints.mono _ _ _
      | exact turns_Unfold.mono _ _
      | exact LeO.none _
      | refine LeO.ite ?_ ?_
      | refine LeO.bind ?_ (fun _ => ?_)
theorem partitalaw10_TurnsParts.mono : ∀ a0 a1 k, LeO (partitalaw10_TurnsParts.f k a0 a1) (partitalaw10_TurnsParts.f (k + 1) a0 a1) := by
  intro a0 a1 k
  obtain ⟨ih0, ih1⟩ := partitalaw10_TurnsParts.mono_l k
  unfold partitalaw10_TurnsParts.f
  repeat' first
      | (with_reducible exact ih0 _ _ _ _ _ _ _ _ _)
      | (with_reducible exact ih1 _ _ _ _ _ _ _)
      | (with_reducible exact partitalaw10_Made.mono _ _ _ _ _ _)
      | (with_reducible exact partitalaw10_examples.mono _)
      | (with_reducible exact partitalaw10_ints.mono _ _ _)
      | (with_reducible exact turns_Unfold.mono _ _)
      | (with_reducible exact LeO.refl _)
      | (with_reducible exact LeO.none _)
      | (with_reducible refine LeO.ite ?_ ?_)
      | (with_reducible refine LeO.bind ?_ (fun _ => ?_))
      | exact ih0 _ _ _ _ _ _ _ _ _
      | exact ih1 _ _ _ _ _ _ _
      | exact partitalaw10_Made.mono _ _ _ _ _ _
      | exact partitalaw10_examples.mono _
      | exact partitalaw10_ints.mono _ _ _
      | exact turns_Unfold.mono _ _
      | exact LeO.none _
      | refine LeO.ite ?_ ?_
      | refine LeO.bind ?_ (fun _ => ?_)
set_option maxHeartbeats 8000000 in
set_option maxRecDepth 100000 in
theorem partitalaw10_TurnsParts.calls (k : Nat) (A0 : Option Addr) (c0 : Nat) (l0 : List (S46)) (A1 : Option Addr) (c1 : Nat) (l1 : List (S46)) (r : Bool) (w : World) (hr0 : Kd.C k46 w A0 l0.length l0) (hc0 : l0.length ≤ c0) (hr1 : Kd.C k46 w A1 l1.length l1) (hc1 : l1.length ≤ c1) (h : partitalaw10_TurnsParts.f k l0 l1 = some r) :
    Calls Try.prog 8 #[.slice A0 l0.length c0, .slice A1 l1.length c1] w fun e w' => e = .returned (.bool r) ∧ Below w.heap.size w w' := by
  have HR0 := Aside0.mk hr0
  have HC0 := Aside0.mk hc0
  clear hr0 hc0
  have HR1 := Aside0.mk hr1
  have HC1 := Aside0.mk hc1
  clear hr1 hc1
  have HB := Aside0.mk (Below.refl w.heap.size w)
  have H : ((partitalaw10_examples.f k).bind fun t409 => (if t409 = true then ((partitalaw10_Made.f k l0 0 0 0 0).bind fun t410 => ((partitalaw10_Made.f k l1 0 0 0 0).bind fun t413 => (if (t413.length : Int) = 0 then (some t409) else (if 0 < (t413.length : Int) then ((some (t413.set (0 : Int).toNat (⟨true, (rd_T38 t413 0).f1, (rd_T38 t413 0).f2, (rd_T38 t413 0).f3, (rd_T38 t413 0).f4, (rd_T38 t413 0).f5, (rd_T38 t413 0).f6, (rd_T38 t413 0).f7⟩ : S38) : List (S38))).bind fun y416 => ((turns_Unfold.f k t410).bind fun bt417 => ((turns_Unfold.f k y416).bind fun bt421 => (if ([] : List (S38)).length + t410.length < 2513169434916 then ((some (([] : List (S38)) ++ t410 : List (S38))).bind fun y425 => (if y425.length + y416.length < 2513169434916 then ((turns_Unfold.f k (y425 ++ y416)).bind fun bt431 => (if bt417.2 = 0 then (partitalaw10_TurnsParts.j0 k t409 t410 bt417.1 bt417.2 bt421.1 bt421.2 bt431.1 bt431.2 (bt421.2 != 0)) else (partitalaw10_TurnsParts.j0 k t409 t410 bt417.1 bt417.2 bt421.1 bt421.2 bt431.1 bt431.2 true))) else (none))) else (none))))) else (none))))) else (some false))) = some r := h
  clear h
  replace H := Option.bind_eq_some_iff.mp H
  obtain ⟨t409, A30, H⟩ := H
  replace H : (if t409 = true then ((partitalaw10_Made.f k l0 0 0 0 0).bind fun t410 => ((partitalaw10_Made.f k l1 0 0 0 0).bind fun t413 => (if (t413.length : Int) = 0 then (some t409) else (if 0 < (t413.length : Int) then ((some (t413.set (0 : Int).toNat (⟨true, (rd_T38 t413 0).f1, (rd_T38 t413 0).f2, (rd_T38 t413 0).f3, (rd_T38 t413 0).f4, (rd_T38 t413 0).f5, (rd_T38 t413 0).f6, (rd_T38 t413 0).f7⟩ : S38) : List (S38))).bind fun y416 => ((turns_Unfold.f k t410).bind fun bt417 => ((turns_Unfold.f k y416).bind fun bt421 => (if ([] : List (S38)).length + t410.length < 2513169434916 then ((some (([] : List (S38)) ++ t410 : List (S38))).bind fun y425 => (if y425.length + y416.length < 2513169434916 then ((turns_Unfold.f k (y425 ++ y416)).bind fun bt431 => (if bt417.2 = 0 then (partitalaw10_TurnsParts.j0 k t409 t410 bt417.1 bt417.2 bt421.1 bt421.2 bt431.1 bt431.2 (bt421.2 != 0)) else (partitalaw10_TurnsParts.j0 k t409 t410 bt417.1 bt417.2 bt421.1 bt421.2 bt431.1 bt431.2 true))) else (none))) else (none))))) else (none))))) else (some false)) = some r := H
  have A3 := Aside0.mk A30
  clear A30
  by_cases c4 : t409 = true
  · subst c4
    have H1 : ((partitalaw10_Made.f k l0 0 0 0 0).bind fun t410 => ((partitalaw10_Made.f k l1 0 0 0 0).bind fun t413 => (if (t413.length : Int) = 0 then (some true) else (if 0 < (t413.length : Int) then ((some (t413.set (0 : Int).toNat (⟨true, (rd_T38 t413 0).f1, (rd_T38 t413 0).f2, (rd_T38 t413 0).f3, (rd_T38 t413 0).f4, (rd_T38 t413 0).f5, (rd_T38 t413 0).f6, (rd_T38 t413 0).f7⟩ : S38) : List (S38))).bind fun y416 => ((turns_Unfold.f k t410).bind fun bt417 => ((turns_Unfold.f k y416).bind fun bt421 => (if ([] : List (S38)).length + t410.length < 2513169434916 then ((some (([] : List (S38)) ++ t410 : List (S38))).bind fun y425 => (if y425.length + y416.length < 2513169434916 then ((turns_Unfold.f k (y425 ++ y416)).bind fun bt431 => (if bt417.2 = 0 then (partitalaw10_TurnsParts.j0 k true t410 bt417.1 bt417.2 bt421.1 bt421.2 bt431.1 bt431.2 (bt421.2 != 0)) else (partitalaw10_TurnsParts.j0 k true t410 bt417.1 bt417.2 bt421.1 bt421.2 bt431.1 bt431.2 true))) else (none))) else (none))))) else (none))))) = some r := by rw [if_pos rfl] at H; exact H
    clear H
    have H := H1
    clear H1
    replace H := Option.bind_eq_some_iff.mp H
    obtain ⟨t410, A50, H⟩ := H
    replace H : ((partitalaw10_Made.f k l1 0 0 0 0).bind fun t413 => (if (t413.length : Int) = 0 then (some true) else (if 0 < (t413.length : Int) then ((some (t413.set (0 : Int).toNat (⟨true, (rd_T38 t413 0).f1, (rd_T38 t413 0).f2, (rd_T38 t413 0).f3, (rd_T38 t413 0).f4, (rd_T38 t413 0).f5, (rd_T38 t413 0).f6, (rd_T38 t413 0).f7⟩ : S38) : List (S38))).bind fun y416 => ((turns_Unfold.f k t410).bind fun bt417 => ((turns_Unfold.f k y416).bind fun bt421 => (if ([] : List (S38)).length + t410.length < 2513169434916 then ((some (([] : List (S38)) ++ t410 : List (S38))).bind fun y425 => (if y425.length + y416.length < 2513169434916 then ((turns_Unfold.f k (y425 ++ y416)).bind fun bt431 => (if bt417.2 = 0 then (partitalaw10_TurnsParts.j0 k true t410 bt417.1 bt417.2 bt421.1 bt421.2 bt431.1 bt431.2 (bt421.2 != 0)) else (partitalaw10_TurnsParts.j0 k true t410 bt417.1 bt417.2 bt421.1 bt421.2 bt431.1 bt431.2 true))) else (none))) else (none))))) else (none)))) = some r := H
    have A5 := Aside0.mk A50
    clear A50
    replace H := Option.bind_eq_some_iff.mp H
    obtain ⟨t413, A60, H⟩ := H
    replace H : (if (t413.length : Int) = 0 then (some true) else (if 0 < (t413.length : Int) then ((some (t413.set (0 : Int).toNat (⟨true, (rd_T38 t413 0).f1, (rd_T38 t413 0).f2, (rd_T38 t413 0).f3, (rd_T38 t413 0).f4, (rd_T38 t413 0).f5, (rd_T38 t413 0).f6, (rd_T38 t413 0).f7⟩ : S38) : List (S38))).bind fun y416 => ((turns_Unfold.f k t410).bind fun bt417 => ((turns_Unfold.f k y416).bind fun bt421 => (if ([] : List (S38)).length + t410.length < 2513169434916 then ((some (([] : List (S38)) ++ t410 : List (S38))).bind fun y425 => (if y425.length + y416.length < 2513169434916 then ((turns_Unfold.f k (y425 ++ y416)).bind fun bt431 => (if bt417.2 = 0 then (partitalaw10_TurnsParts.j0 k true t410 bt417.1 bt417.2 bt421.1 bt421.2 bt431.1 bt431.2 (bt421.2 != 0)) else (partitalaw10_TurnsParts.j0 k true t410 bt417.1 bt417.2 bt421.1 bt421.2 bt431.1 bt431.2 true))) else (none))) else (none))))) else (none))) = some r := H
    have A6 := Aside0.mk A60
    clear A60
    by_cases c7 : (t413.length : Int) = 0
    · rw [if_pos c7] at H
      have c7b0 : ((t413.length : Int) == 0) = true := beq_iff_eq.mpr c7
      have c7b1 : ((t413.length : Int) != 0) = false := bne_eq_false_iff_eq.mpr c7
      clear c7
      obtain rfl := Option.some.inj H
      go_enter Try.func8, Try.ntmps8
      go_wp2_with (first | ((with_reducible refine gate_callee (f := 11) rfl ?_); refine goesL_ (some 16) rfl rfl Try.func11 (by kernel_rfl) rfl #[] rfl (by (try simp only [List.map_toArray, List.map_cons, List.map_nil]); first | done | rfl | (simp only [List.length_drop, List.length_take]; rfl)) ?_; (with_reducible refine (partitalaw10_examples.calls k  true _ A3.out).mono ?_); rintro e w8 ⟨rfl, hb⟩; refine ⟨_, rfl, ?_⟩; have n0_ := Aside0.mk (below_step (by repeat (first | (with_reducible first | exact HB.out | apply below_alloc | apply pw_below_drewN | apply below_drew1) | exact HB.out)) hb); clear HB; have HB := n0_; clear n0_; (try clear hb); (try clear hb2); (try clear hk); (try clear hi)) | ((with_reducible refine gate_callee (f := 12) rfl ?_); refine goesL_ (some 20) rfl rfl Try.func12 (by kernel_rfl) rfl #[.slice A0 l0.length c0, .int .u8 0, .int .u8 0, .int .u8 0, .int .u8 0] rfl (by (try simp only [List.map_toArray, List.map_cons, List.map_nil]); first | done | rfl | (simp only [List.length_drop, List.length_take]; rfl)) ?_; (with_reducible refine (partitalaw10_Made.calls k _ _ l0 0 0 0 0 t410 _ ?side1 ?side2 A5.out).mono ?_); (case side1 => repeat (first | exact (Kd.C_below HR0.out HB.out) | (with_reducible refine Kd.C_alloc ?_ _) | (with_reducible refine Kd.C_drewN ?_ _) | (with_reducible refine Kd.C_drew ?_))); (case side2 => exact HC0.out); rintro e w9 ⟨v411, rfl, ho0, hb⟩; refine ⟨_, rfl, ?_⟩; have n0_ := Aside0.mk (Kd.N_lower (Kd.N_mono (ok' := fun k_ => True) (Kd.S_N (Kd.S_bound ho0)) (fun k_ hk_ => trivial)) (below_size (by repeat (first | (with_reducible first | exact HB.out | apply below_alloc | apply pw_below_drewN | apply below_drew1) | exact HB.out)))); have n1_ := Aside0.mk (below_step (by repeat (first | (with_reducible first | exact HB.out | apply below_alloc | apply pw_below_drewN | apply below_drew1) | exact HB.out)) hb); clear HB; have HO412 := n0_; have HB := n1_; clear n0_ n1_; (try clear hb); (try clear hb2); (try clear hk); (try clear hi); (try clear ho0)) | ((with_reducible refine gate_callee (f := 12) rfl ?_); refine goesL_ (some 22) rfl rfl Try.func12 (by kernel_rfl) rfl #[.slice A1 l1.length c1, .int .u8 0, .int .u8 0, .int .u8 0, .int .u8 0] rfl (by (try simp only [List.map_toArray, List.map_cons, List.map_nil]); first | done | rfl | (simp only [List.length_drop, List.length_take]; rfl)) ?_; (with_reducible refine (partitalaw10_Made.calls k _ _ l1 0 0 0 0 t413 _ ?side1 ?side2 A6.out).mono ?_); (case side1 => repeat (first | exact (Kd.C_below HR1.out HB.out) | (with_reducible refine Kd.C_alloc ?_ _) | (with_reducible refine Kd.C_drewN ?_ _) | (with_reducible refine Kd.C_drew ?_))); (case side2 => exact HC1.out); rintro e w10 ⟨v414, rfl, ho0, hb⟩; refine ⟨_, rfl, ?_⟩; have n0_ := Aside0.mk (Kd.N_elder' (by (with_reducible repeat (first | apply Kd.N_alloc | apply Kd.N_drewN | apply Kd.N_drew)); exact HO412.out) (by first | exact Kd.S_base ho0 | exact Kd.N_base ho0) hb); have n1_ := Aside0.mk (Kd.N_lower (Kd.N_mono (ok' := fun k_ => some k_ ≠ (v411 : Value).ownBlock) (Kd.S_N (Kd.S_bound ho0)) (fun k_ hk_ => (Kd.fresh' (Kd.N_lt (by (with_reducible repeat (first | apply Kd.N_alloc | apply Kd.N_drewN | apply Kd.N_drew)); exact HO412.out)) k_ hk_.2.1))) (below_size (by repeat (first | (with_reducible first | exact HB.out | apply below_alloc | apply pw_below_drewN | apply below_drew1) | exact HB.out)))); have n2_ := Aside0.mk (below_step (by repeat (first | (with_reducible first | exact HB.out | apply below_alloc | apply pw_below_drewN | apply below_drew1) | exact HB.out)) hb); clear HO412; clear HB; have HO412 := n0_; have HO415 := n1_; have HB := n2_; clear n0_ n1_ n2_; (try clear hb); (try clear hb2); (try clear hk); (try clear hi); (try clear ho0); obtain ⟨Ao11, co11, eo11⟩ := Kd.N_slice HO415.out; subst eo11))
      go_ret
      exact ⟨by first | rfl | (simp [errW_none, errW_some] <;> rfl) | (simp [*, errW_none, errW_some] <;> rfl), by repeat (first | (with_reducible first | exact HB.out | apply below_alloc | apply pw_below_drewN | apply below_drew1) | exact HB.out)⟩
    · rw [if_neg c7] at H
      have c7b0 : ((t413.length : Int) == 0) = false := beq_eq_false_iff_ne.mpr c7
      have c7b1 : ((t413.length : Int) != 0) = true := bne_iff_ne.mpr c7
      have c7b2 : ¬ (t413 = []) := fun h_ => c7 (by rw [h_]; rfl)
      by_cases c12 : 0 < (t413.length : Int)
      · rw [if_pos c12] at H
        have c12b0 : decide (0 < (t413.length : Int)) = true := decide_eq_true c12
        have c12b1 : decide (0 < t413.length) = true := decide_eq_true (by omega)
        clear c12
        obtain ⟨y416, hy416⟩ : ∃ y_ : List (S38), y_ = (t413.set (0 : Int).toNat (⟨true, (rd_T38 t413 0).f1, (rd_T38 t413 0).f2, (rd_T38 t413 0).f3, (rd_T38 t413 0).f4, (rd_T38 t413 0).f5, (rd_T38 t413 0).f6, (rd_T38 t413 0).f7⟩ : S38)) := ⟨_, rfl⟩
        replace H : ((turns_Unfold.f k t410).bind fun bt417 => ((turns_Unfold.f k y416).bind fun bt421 => (if ([] : List (S38)).length + t410.length < 2513169434916 then ((some (([] : List (S38)) ++ t410 : List (S38))).bind fun y425 => (if y425.length + y416.length < 2513169434916 then ((turns_Unfold.f k (y425 ++ y416)).bind fun bt431 => (if bt417.2 = 0 then (partitalaw10_TurnsParts.j0 k true t410 bt417.1 bt417.2 bt421.1 bt421.2 bt431.1 bt431.2 (bt421.2 != 0)) else (partitalaw10_TurnsParts.j0 k true t410 bt417.1 bt417.2 bt421.1 bt421.2 bt431.1 bt431.2 true))) else (none))) else (none)))) = some r := by first | (rw [hy416]; with_reducible exact H) | (have H2_ := (Option.bind_some _ _).symm.trans H; rw [hy416]; with_reducible exact H2_) | (have H2_ := (Option.bind_some _ _).symm.trans H; with_reducible exact H2_) | with_reducible exact H | (rw [hy416]; exact H) | exact H
        have Ny416 := Aside0.mk hy416
        clear hy416
        replace H := Option.bind_eq_some_iff.mp H
        obtain ⟨⟨t417, t418⟩, A140, H⟩ := H
        replace H : ((turns_Unfold.f k y416).bind fun bt421 => (if ([] : List (S38)).length + t410.length < 2513169434916 then ((some (([] : List (S38)) ++ t410 : List (S38))).bind fun y425 => (if y425.length + y416.length < 2513169434916 then ((turns_Unfold.f k (y425 ++ y416)).bind fun bt431 => (if t418 = 0 then (partitalaw10_TurnsParts.j0 k true t410 t417 t418 bt421.1 bt421.2 bt431.1 bt431.2 (bt421.2 != 0)) else (partitalaw10_TurnsParts.j0 k true t410 t417 t418 bt421.1 bt421.2 bt431.1 bt431.2 true))) else (none))) else (none))) = some r := H
        have A14 := Aside0.mk A140
        clear A140
        replace H := Option.bind_eq_some_iff.mp H
        obtain ⟨⟨t421, t422⟩, A150, H⟩ := H
        replace H : (if ([] : List (S38)).length + t410.length < 2513169434916 then ((some (([] : List (S38)) ++ t410 : List (S38))).bind fun y425 => (if y425.length + y416.length < 2513169434916 then ((turns_Unfold.f k (y425 ++ y416)).bind fun bt431 => (if t418 = 0 then (partitalaw10_TurnsParts.j0 k true t410 t417 t418 t421 t422 bt431.1 bt431.2 (t422 != 0)) else (partitalaw10_TurnsParts.j0 k true t410 t417 t418 t421 t422 bt431.1 bt431.2 true))) else (none))) else (none)) = some r := H
        have A15 := Aside0.mk A150
        clear A150
        by_cases c16 : ([] : List (S38)).length + t410.length < 2513169434916
        · rw [if_pos c16] at H
          have LMc16 := Aside0.mk c16
          clear c16
          obtain ⟨y425, hy425⟩ : ∃ y_ : List (S38), y_ = (([] : List (S38)) ++ t410) := ⟨_, rfl⟩
          replace H : (if y425.length + y416.length < 2513169434916 then ((turns_Unfold.f k (y425 ++ y416)).bind fun bt431 => (if t418 = 0 then (partitalaw10_TurnsParts.j0 k true t410 t417 t418 t421 t422 bt431.1 bt431.2 (t422 != 0)) else (partitalaw10_TurnsParts.j0 k true t410 t417 t418 t421 t422 bt431.1 bt431.2 true))) else (none)) = some r := by first | (rw [hy425]; with_reducible exact H) | (have H2_ := (Option.bind_some _ _).symm.trans H; rw [hy425]; with_reducible exact H2_) | (have H2_ := (Option.bind_some _ _).symm.trans H; with_reducible exact H2_) | with_reducible exact H | (rw [hy425]; exact H) | exact H
          have Ny425 := Aside0.mk hy425
          clear hy425
          by_cases c17 : y425.length + y416.length < 2513169434916
          · rw [if_pos c17] at H
            have LMc17 := Aside0.mk c17
            clear c17
            obtain ⟨y428, hy428⟩ : ∃ y_ : List (S38), y_ = (y425 ++ y416) := ⟨_, rfl⟩
            replace H : ((turns_Unfold.f k y428).bind fun bt431 => (if t418 = 0 then (partitalaw10_TurnsParts.j0 k true t410 t417 t418 t421 t422 bt431.1 bt431.2 (t422 != 0)) else (partitalaw10_TurnsParts.j0 k true t410 t417 t418 t421 t422 bt431.1 bt431.2 true))) = some r := by first | (rw [hy428]; with_reducible exact H) | (have H2_ := (Option.bind_some _ _).symm.trans H; rw [hy428]; with_reducible exact H2_) | (have H2_ := (Option.bind_some _ _).symm.trans H; with_reducible exact H2_) | with_reducible exact H | (rw [hy428]; exact H) | exact H
            have Ny428 := Aside0.mk hy428
            clear hy428
            replace H := Option.bind_eq_some_iff.mp H
            obtain ⟨⟨t431, t432⟩, A180, H⟩ := H
            replace H : (if t418 = 0 then (partitalaw10_TurnsParts.j0 k true t410 t417 t418 t421 t422 t431 t432 (t422 != 0)) else (partitalaw10_TurnsParts.j0 k true t410 t417 t418 t421 t422 t431 t432 true)) = some r := H
            have A18 := Aside0.mk A180
            clear A180
            have HC19 := Aside0.mk H
            clear H
            go_enter Try.func8, Try.ntmps8
            go_upto_region 12 with (first | ((with_reducible refine gate_callee (f := 11) rfl ?_); refine goesL_ (some 16) rfl rfl Try.func11 (by kernel_rfl) rfl #[] rfl (by (try simp only [List.map_toArray, List.map_cons, List.map_nil]); first | done | rfl | (simp only [List.length_drop, List.length_take]; rfl)) ?_; (with_reducible refine (partitalaw10_examples.calls k  true _ A3.out).mono ?_); rintro e w20 ⟨rfl, hb⟩; refine ⟨_, rfl, ?_⟩; have n0_ := Aside0.mk (below_step (by repeat (first | (with_reducible first | exact HB.out | apply below_alloc | apply pw_below_drewN | apply below_drew1) | exact HB.out)) hb); clear HB; have HB := n0_; clear n0_; (try clear hb); (try clear hb2); (try clear hk); (try clear hi)) | ((with_reducible refine gate_callee (f := 12) rfl ?_); refine goesL_ (some 20) rfl rfl Try.func12 (by kernel_rfl) rfl #[.slice A0 l0.length c0, .int .u8 0, .int .u8 0, .int .u8 0, .int .u8 0] rfl (by (try simp only [List.map_toArray, List.map_cons, List.map_nil]); first | done | rfl | (simp only [List.length_drop, List.length_take]; rfl)) ?_; (with_reducible refine (partitalaw10_Made.calls k _ _ l0 0 0 0 0 t410 _ ?side1 ?side2 A5.out).mono ?_); (case side1 => repeat (first | exact (Kd.C_below HR0.out HB.out) | (with_reducible refine Kd.C_alloc ?_ _) | (with_reducible refine Kd.C_drewN ?_ _) | (with_reducible refine Kd.C_drew ?_))); (case side2 => exact HC0.out); rintro e w21 ⟨v411, rfl, ho0, hb⟩; refine ⟨_, rfl, ?_⟩; have n0_ := Aside0.mk (Kd.N_lower (Kd.N_mono (ok' := fun k_ => True) (Kd.S_N (Kd.S_bound ho0)) (fun k_ hk_ => trivial)) (below_size (by repeat (first | (with_reducible first | exact HB.out | apply below_alloc | apply pw_below_drewN | apply below_drew1) | exact HB.out)))); have n1_ := Aside0.mk (below_step (by repeat (first | (with_reducible first | exact HB.out | apply below_alloc | apply pw_below_drewN | apply below_drew1) | exact HB.out)) hb); clear HB; have HO412 := n0_; have HB := n1_; clear n0_ n1_; (try clear hb); (try clear hb2); (try clear hk); (try clear hi); (try clear ho0)) | ((with_reducible refine gate_callee (f := 12) rfl ?_); refine goesL_ (some 22) rfl rfl Try.func12 (by kernel_rfl) rfl #[.slice A1 l1.length c1, .int .u8 0, .int .u8 0, .int .u8 0, .int .u8 0] rfl (by (try simp only [List.map_toArray, List.map_cons, List.map_nil]); first | done | rfl | (simp only [List.length_drop, List.length_take]; rfl)) ?_; (with_reducible refine (partitalaw10_Made.calls k _ _ l1 0 0 0 0 t413 _ ?side1 ?side2 A6.out).mono ?_); (case side1 => repeat (first | exact (Kd.C_below HR1.out HB.out) | (with_reducible refine Kd.C_alloc ?_ _) | (with_reducible refine Kd.C_drewN ?_ _) | (with_reducible refine Kd.C_drew ?_))); (case side2 => exact HC1.out); rintro e w22 ⟨v414, rfl, ho0, hb⟩; refine ⟨_, rfl, ?_⟩; have n0_ := Aside0.mk (Kd.N_elder' (by (with_reducible repeat (first | apply Kd.N_alloc | apply Kd.N_drewN | apply Kd.N_drew)); exact HO412.out) (by first | exact Kd.S_base ho0 | exact Kd.N_base ho0) hb); have n1_ := Aside0.mk (Kd.N_lower (Kd.N_mono (ok' := fun k_ => some k_ ≠ (v411 : Value).ownBlock) (Kd.S_N (Kd.S_bound ho0)) (fun k_ hk_ => (Kd.fresh' (Kd.N_lt (by (with_reducible repeat (first | apply Kd.N_alloc | apply Kd.N_drewN | apply Kd.N_drew)); exact HO412.out)) k_ hk_.2.1))) (below_size (by repeat (first | (with_reducible first | exact HB.out | apply below_alloc | apply pw_below_drewN | apply below_drew1) | exact HB.out)))); have n2_ := Aside0.mk (below_step (by repeat (first | (with_reducible first | exact HB.out | apply below_alloc | apply pw_below_drewN | apply below_drew1) | exact HB.out)) hb); clear HO412; clear HB; have HO412 := n0_; have HO415 := n1_; have HB := n2_; clear n0_ n1_ n2_; (try clear hb); (try clear hb2); (try clear hk); (try clear hi); (try clear ho0); obtain ⟨Ao23, co23, eo23⟩ := Kd.N_slice HO415.out; subst eo23; have p13 : 0 ≤ (0 : Int) := (by omega); have q13 : (0 : Int) < ((t413.length : Int) : Int) := of_decide_eq_true (by first | (with_reducible assumption) | assumption); have qi13 : (0 < t413.length) = True := eq_true (by omega); obtain ⟨go13, co13, eo13, gb13, gl13, cl13, HG13⟩ := Kd.N_form HO415.out (by omega); (first | cases eo13 | (injection eo13 with ea_ en_ ec_; (first | subst ea_ | (injection ea_ with ea_; subst ea_)); subst ec_; clear en_)); have GB13 := Aside0.mk gb13; have GG13 := Aside0.mk HG13; clear gb13 gl13 HG13; obtain ⟨ce13, hcl13, hM13, hcc13, hfr13⟩ := Kd.N_elem HO415.out z38 (0 : Int) p13 q13; obtain ⟨ua13_2, uc13_2, rfl, ul13_2, ge13_2⟩ := k38_openF hM13; have hx13_0 : w22.cell? ⟨go13, (0 : Int).toNat * 8, none⟩ = some (.bool ((rd_T38 t413 0).f0)) := hcc13 0 _ rfl; have hx13_1 : w22.cell? ⟨go13, (0 : Int).toNat * 8 + 1, none⟩ = some (.int .i64 ((rd_T38 t413 0).f1)) := hcc13 1 _ rfl; have hx13_2 : w22.cell? ⟨go13, (0 : Int).toNat * 8 + 2, none⟩ = some (.slice ua13_2 ((rd_T38 t413 0).f2).length uc13_2) := hcc13 2 _ rfl; have hx13_3 : w22.cell? ⟨go13, (0 : Int).toNat * 8 + 3, none⟩ = some (.bool ((rd_T38 t413 0).f3)) := hcc13 3 _ rfl; have hx13_4 : w22.cell? ⟨go13, (0 : Int).toNat * 8 + 4, none⟩ = some (.bool ((rd_T38 t413 0).f4)) := hcc13 4 _ rfl; have hx13_5 : w22.cell? ⟨go13, (0 : Int).toNat * 8 + 5, none⟩ = some (.bool ((rd_T38 t413 0).f5)) := hcc13 5 _ rfl; have hx13_6 : w22.cell? ⟨go13, (0 : Int).toNat * 8 + 6, none⟩ = some (.bool ((rd_T38 t413 0).f6)) := hcc13 6 _ rfl; have hx13_7 : w22.cell? ⟨go13, (0 : Int).toNat * 8 + 7, none⟩ = some (.int .i64 ((rd_T38 t413 0).f7)) := hcc13 7 _ rfl; have hf13_0 : w22.frozen? ⟨go13, (0 : Int).toNat * 8, none⟩ = false := hfr13 0; have hf13_1 : w22.frozen? ⟨go13, (0 : Int).toNat * 8 + 1, none⟩ = false := hfr13 1; have hf13_2 : w22.frozen? ⟨go13, (0 : Int).toNat * 8 + 2, none⟩ = false := hfr13 2; have hf13_3 : w22.frozen? ⟨go13, (0 : Int).toNat * 8 + 3, none⟩ = false := hfr13 3; have hf13_4 : w22.frozen? ⟨go13, (0 : Int).toNat * 8 + 4, none⟩ = false := hfr13 4; have hf13_5 : w22.frozen? ⟨go13, (0 : Int).toNat * 8 + 5, none⟩ = false := hfr13 5; have hf13_6 : w22.frozen? ⟨go13, (0 : Int).toNat * 8 + 6, none⟩ = false := hfr13 6; have hf13_7 : w22.frozen? ⟨go13, (0 : Int).toNat * 8 + 7, none⟩ = false := hfr13 7; clear hcl13 hcc13 hfr13 hM13; (try rw [show ((0 : Int)).toNat = 0 from rfl] at hx13_0); (try simp only [Nat.reduceMul, Nat.zero_mul, Nat.zero_add, Nat.reduceAdd] at hx13_0); (try rw [show ((0 : Int)).toNat = 0 from rfl] at hf13_0); (try simp only [Nat.reduceMul, Nat.zero_mul, Nat.zero_add, Nat.reduceAdd] at hf13_0); (try rw [show ((0 : Int)).toNat = 0 from rfl] at hx13_1); (try simp only [Nat.reduceMul, Nat.zero_mul, Nat.zero_add, Nat.reduceAdd] at hx13_1); (try rw [show ((0 : Int)).toNat = 0 from rfl] at hf13_1); (try simp only [Nat.reduceMul, Nat.zero_mul, Nat.zero_add, Nat.reduceAdd] at hf13_1); (try rw [show ((0 : Int)).toNat = 0 from rfl] at hx13_2); (try simp only [Nat.reduceMul, Nat.zero_mul, Nat.zero_add, Nat.reduceAdd] at hx13_2); (try rw [show ((0 : Int)).toNat = 0 from rfl] at hf13_2); (try simp only [Nat.reduceMul, Nat.zero_mul, Nat.zero_add, Nat.reduceAdd] at hf13_2); (try rw [show ((0 : Int)).toNat = 0 from rfl] at hx13_3); (try simp only [Nat.reduceMul, Nat.zero_mul, Nat.zero_add, Nat.reduceAdd] at hx13_3); (try rw [show ((0 : Int)).toNat = 0 from rfl] at hf13_3); (try simp only [Nat.reduceMul, Nat.zero_mul, Nat.zero_add, Nat.reduceAdd] at hf13_3); (try rw [show ((0 : Int)).toNat = 0 from rfl] at hx13_4); (try simp only [Nat.reduceMul, Nat.zero_mul, Nat.zero_add, Nat.reduceAdd] at hx13_4); (try rw [show ((0 : Int)).toNat = 0 from rfl] at hf13_4); (try simp only [Nat.reduceMul, Nat.zero_mul, Nat.zero_add, Nat.reduceAdd] at hf13_4); (try rw [show ((0 : Int)).toNat = 0 from rfl] at hx13_5); (try simp only [Nat.reduceMul, Nat.zero_mul, Nat.zero_add, Nat.reduceAdd] at hx13_5); (try rw [show ((0 : Int)).toNat = 0 from rfl] at hf13_5); (try simp only [Nat.reduceMul, Nat.zero_mul, Nat.zero_add, Nat.reduceAdd] at hf13_5); (try rw [show ((0 : Int)).toNat = 0 from rfl] at hx13_6); (try simp only [Nat.reduceMul, Nat.zero_mul, Nat.zero_add, Nat.reduceAdd] at hx13_6); (try rw [show ((0 : Int)).toNat = 0 from rfl] at hf13_6); (try simp only [Nat.reduceMul, Nat.zero_mul, Nat.zero_add, Nat.reduceAdd] at hf13_6); (try rw [show ((0 : Int)).toNat = 0 from rfl] at hx13_7); (try simp only [Nat.reduceMul, Nat.zero_mul, Nat.zero_add, Nat.reduceAdd] at hx13_7); (try rw [show ((0 : Int)).toNat = 0 from rfl] at hf13_7); (try simp only [Nat.reduceMul, Nat.zero_mul, Nat.zero_add, Nat.reduceAdd] at hf13_7); replace p13 := eq_true p13; replace q13 := eq_true q13; have HX24 := Aside0.mk (show Kd.N k38 38 w22 w.heap.size (fun k_ => some k_ ≠ (v411 : Value).ownBlock) (.slice (some ⟨go13, 0, none⟩) t413.length co23) t413 from (by (with_reducible repeat (first | apply Kd.N_alloc | apply Kd.N_drewN | apply Kd.N_drew)); exact HO415.out)); obtain ⟨ce24, hcl24, hM24, hcc24, hfr24⟩ := Kd.N_elem HX24.out z38 (0 : Int) (by omega) (by have h_ : (0 : Int) < ((t413.length : Int) : Int) := of_decide_eq_true (by first | (with_reducible assumption) | assumption); first | exact h_ | (have e_ := (Kd.N_reads' HO415.out).1; omega) | simpa using h_); obtain ⟨ua24_2, uc24_2, rfl, ul24_2, ge24_2⟩ := k38_openF hM24; have HP24 := Kd.N_seg HX24.out (0 : Int) (by omega) (by have h_ : (0 : Int) < ((t413.length : Int) : Int) := of_decide_eq_true (by first | (with_reducible assumption) | assumption); first | exact h_ | (have e_ := (Kd.N_reads' HO415.out).1; omega) | simpa using h_) (seg := [.bool true]) (j := 0) hcl24 hcc24 (show 1 ≤ 8 from by decide) (x' := (⟨true, (rd_T38 t413 0).f1, (rd_T38 t413 0).f2, (rd_T38 t413 0).f3, (rd_T38 t413 0).f4, (rd_T38 t413 0).f5, (rd_T38 t413 0).f6, (rd_T38 t413 0).f7⟩ : S38)) (k38_mkF _ _ (⟨true, (rd_T38 t413 0).f1, (rd_T38 t413 0).f2, (rd_T38 t413 0).f3, (rd_T38 t413 0).f4, (rd_T38 t413 0).f5, (rd_T38 t413 0).f6, (rd_T38 t413 0).f7⟩ : S38) ul24_2 ge24_2) (fun _ hk => hk); have hx24_0 := hcc24 0 _ rfl; (try simp only [show (k38).sz = 8 from rfl, Nat.mul_one, Nat.add_zero] at hx24_0); (try rw [show ((0 : Int)).toNat = 0 from rfl] at hx24_0); (try simp only [Nat.reduceMul, Nat.zero_mul, Nat.zero_add, Nat.reduceAdd] at hx24_0); have hf24_0 := hfr24 0; (try simp only [show (k38).sz = 8 from rfl, Nat.mul_one, Nat.add_zero] at hf24_0); (try rw [show ((0 : Int)).toNat = 0 from rfl] at hf24_0); (try simp only [Nat.reduceMul, Nat.zero_mul, Nat.zero_add, Nat.reduceAdd] at hf24_0); clear hcl24 hcc24 hfr24 hM24) | ((with_reducible refine gate_store (t := 4) (p := 29) rfl ?_); refine store_event (t := 4) (p := 29) (v := ?vo_w25) (w1 := (w22.setCell ⟨go13, 0, none⟩ (.bool true))) ?hg ?ho ?hn ?hr ?_; (case ho => rfl); (case hg => rfl); (case hn => rfl); (case hr => first | (go_simp; done) | (go_simp; rfl)); intro w25 hw; have hg : w22.grownBy w25 (some go13) := (by rw [hw]; exact HP24.2); have hp_ : Kd.N k38 38 w25 w.heap.size (fun k_ => some k_ ≠ (v411 : Value).ownBlock) (.slice (some ⟨go13, 0, none⟩) t413.length co23) y416 := (by rw [hw, Ny416.out]; exact HP24.1); clear HP24; have n0_ := Aside0.mk (Kd.N_afterv (v := (.slice (some ⟨go13, 0, none⟩) t413.length co23)) (v1 := (.slice (some ⟨go13, 0, none⟩) t413.length co23)) (ok := (fun _ => True)) (by (with_reducible repeat (first | apply Kd.N_alloc | apply Kd.N_drewN | apply Kd.N_drew)); exact HO412.out) hg (.inl rfl)); have n1_ := Aside0.mk (hp_); have n2_ := Aside0.mk ((by rw [hw]; exact below_set (HB.out) GB13.out : Below w.heap.size w w25)); clear HO412; clear HO415; clear HB; have HO412 := n0_; have HO415 := n1_; have HB := n2_; clear n0_ n1_ n2_; clear hg hw hp_; obtain ⟨Ao26, co26, eo26⟩ := Kd.N_slice HO412.out; subst eo26) | ((with_reducible refine gate_callee (f := 15) rfl ?_); refine goesL_ (some 32) rfl rfl Try.func15 (by kernel_rfl) rfl #[.slice Ao26 t410.length co26] rfl (by (try simp only [List.map_toArray, List.map_cons, List.map_nil]); first | done | rfl | (simp only [List.length_drop, List.length_take]; rfl)) ?_; (with_reducible refine (turns_Unfold.calls k _ _ t410 t417 t418 _ ?side1 ?side2 A14.out).mono ?_); (case side1 => repeat (first | exact (Kd.N_reads' HO412.out).2.2 | (with_reducible refine Kd.C_alloc ?_ _) | (with_reducible refine Kd.C_drewN ?_ _) | (with_reducible refine Kd.C_drew ?_))); (case side2 => exact (Kd.N_reads' HO412.out).2.1); rintro e w27 ⟨v419, rfl, ho0, hb⟩; refine ⟨_, rfl, ?_⟩; have n0_ := Aside0.mk (Kd.N_elder' (by (with_reducible repeat (first | apply Kd.N_alloc | apply Kd.N_drewN | apply Kd.N_drew)); exact HO412.out) (Kd.R_base ho0) hb); have n1_ := Aside0.mk (Kd.N_elder' (by (with_reducible repeat (first | apply Kd.N_alloc | apply Kd.N_drewN | apply Kd.N_drew)); exact HO415.out) (Kd.R_base ho0) hb); have n2_ := Aside0.mk (Kd.R_lower ho0 (below_size (by repeat (first | (with_reducible first | exact HB.out | apply below_alloc | apply pw_below_drewN | apply below_drew1) | exact HB.out)))); have n3_ := Aside0.mk (below_step (by repeat (first | (with_reducible first | exact HB.out | apply below_alloc | apply pw_below_drewN | apply below_drew1) | exact HB.out)) hb); clear HO412; clear HO415; clear HB; have HO412 := n0_; have HO415 := n1_; have HO420 := n2_; have HB := n3_; clear n0_ n1_ n2_ n3_; (try clear hb); (try clear hb2); (try clear hk); (try clear hi); (try clear ho0)) | ((with_reducible refine gate_callee (f := 15) rfl ?_); refine goesL_ (some 37) rfl rfl Try.func15 (by kernel_rfl) rfl #[.slice (some ⟨go13, 0, none⟩) y416.length co23] rfl (by (try simp only [List.map_toArray, List.map_cons, List.map_nil]); first | done | (rw [show y416.length = t413.length from (Kd.N_reads' HO415.out).1.symm] <;> rfl) | rfl | (simp only [List.length_drop, List.length_take]; rfl)) ?_; (with_reducible refine (turns_Unfold.calls k _ _ y416 t421 t422 _ ?side1 ?side2 A15.out).mono ?_); (case side1 => repeat (first | exact (Kd.N_reads' HO415.out).2.2 | (with_reducible refine Kd.C_alloc ?_ _) | (with_reducible refine Kd.C_drewN ?_ _) | (with_reducible refine Kd.C_drew ?_))); (case side2 => rw [show y416.length = t413.length from (Kd.N_reads' HO415.out).1.symm]; exact (Kd.N_reads' HO415.out).2.1); rintro e w28 ⟨v423, rfl, ho0, hb⟩; refine ⟨_, rfl, ?_⟩; have n0_ := Aside0.mk (Kd.N_elder' (by (with_reducible repeat (first | apply Kd.N_alloc | apply Kd.N_drewN | apply Kd.N_drew)); exact HO412.out) (Kd.R_base ho0) hb); have n1_ := Aside0.mk (Kd.N_elder' (by (with_reducible repeat (first | apply Kd.N_alloc | apply Kd.N_drewN | apply Kd.N_drew)); exact HO415.out) (Kd.R_base ho0) hb); have n2_ := Aside0.mk (Kd.R_elder' (by (with_reducible repeat (first | apply Kd.R_alloc | apply Kd.R_drewN | apply Kd.R_drew)); exact HO420.out) (Kd.R_base ho0) hb); have n3_ := Aside0.mk (Kd.R_lower (Kd.R_new' ho0 (Kd.R_lt (by (with_reducible repeat (first | apply Kd.R_alloc | apply Kd.R_drewN | apply Kd.R_drew)); exact HO420.out))) (below_size (by repeat (first | (with_reducible first | exact HB.out | apply below_alloc | apply pw_below_drewN | apply below_drew1) | exact HB.out)))); have n4_ := Aside0.mk (below_step (by repeat (first | (with_reducible first | exact HB.out | apply below_alloc | apply pw_below_drewN | apply below_drew1) | exact HB.out)) hb); clear HO412; clear HO415; clear HO420; clear HB; have HO412 := n0_; have HO415 := n1_; have HO420 := n2_; have HO424 := n3_; have HB := n4_; clear n0_ n1_ n2_ n3_ n4_; (try clear hb); (try clear hb2); (try clear hk); (try clear hi); (try clear ho0)) | ((with_reducible refine gate_builtin (b := .append) (xs := #[.const (.slice none 0 0), .tmp 41]) rfl ?_); at_builtin; refine Kd.N_append_rows k38 (w0 := w) w.heap.size rfl (.const (.slice none 0 0)) (.tmp 41) 22 38 (.agg #[(.bool false), (.int .i64 0), (.slice none 0 0), (.bool false), (.bool false), (.bool false), (.bool false), (.int .i64 0)]) 56 rfl Try.underlying22 info38 rfl (by decide) (by omega) (.slice none 0 0) ([] : List (S38)) t410 _ _ _ (fun k_ => some k_ ≠ (.slice (some ⟨go13, 0, none⟩) t413.length co23 : Value).ownBlock ∧ some k_ ≠ (v419 : Value).ownBlock ∧ some k_ ≠ (v423 : Value).ownBlock) (fun k_ => ((fun k_ => some k_ ≠ (.slice (some ⟨go13, 0, none⟩) t413.length co23 : Value).ownBlock ∧ some k_ ≠ (v419 : Value).ownBlock ∧ some k_ ≠ (v423 : Value).ownBlock)) k_ ∧ some k_ ≠ (.slice none 0 0 : Value).ownBlock) rfl rfl ?aO ?aR (fun _ hk => hk) ?aF ?aB ?aS ?aL ?_; (case aR => exact (by skip; exact Kd.N_F (Kd.N_mono (ok' := (fun k_ => ((fun k_ => some k_ ≠ (.slice (some ⟨go13, 0, none⟩) t413.length co23 : Value).ownBlock ∧ some k_ ≠ (v419 : Value).ownBlock ∧ some k_ ≠ (v423 : Value).ownBlock)) k_ ∧ some k_ ≠ (.slice none 0 0 : Value).ownBlock)) (HO412.out) (fun k_ hk => ⟨⟨hk.1.1.2, ⟨hk.1.2, hk.2⟩⟩, (by simp [Value.ownBlock])⟩)))); (case aB => exact (by repeat (first | (with_reducible first | exact HB.out | apply below_alloc | apply pw_below_drewN | apply below_drew1) | exact HB.out))); (case aF => exact (fun k_ hk => ⟨Kd.fresh' (Kd.N_lt (by (with_reducible repeat (first | apply Kd.N_alloc | apply Kd.N_drewN | apply Kd.N_drew)); exact HO415.out)) k_ hk, Kd.fresh' (Kd.R_lt (by (with_reducible repeat (first | apply Kd.R_alloc | apply Kd.R_drewN | apply Kd.R_drew)); exact HO420.out)) k_ hk, Kd.fresh' (Kd.R_lt (by (with_reducible repeat (first | apply Kd.R_alloc | apply Kd.R_drewN | apply Kd.R_drew)); exact HO424.out)) k_ hk⟩)); (case aO => exact ((Kd.N_nil _ _ _ _ (fun k_ => some k_ ≠ (.slice (some ⟨go13, 0, none⟩) t413.length co23 : Value).ownBlock ∧ some k_ ≠ (v419 : Value).ownBlock ∧ some k_ ≠ (v423 : Value).ownBlock)))); (case aS => exact (below_size (by repeat (first | (with_reducible first | exact HB.out | apply below_alloc | apply pw_below_drewN | apply below_drew1) | exact HB.out)))); (case aL => have := LMc16.out; omega); intro v426 w29 ho hb hg hat; rw [← Ny425.out] at ho; have n0_ := Aside0.mk (Kd.N_afterv (Kd.N_apart_nil (by (with_reducible repeat (first | apply Kd.N_alloc | apply Kd.N_drewN | apply Kd.N_drew)); exact HO412.out)) hg hat); have n1_ := Aside0.mk (Kd.N_afterv (Kd.N_apart_nil (by (with_reducible repeat (first | apply Kd.N_alloc | apply Kd.N_drewN | apply Kd.N_drew)); exact HO415.out)) hg hat); have n2_ := Aside0.mk (Kd.R_grown (by (with_reducible repeat (first | apply Kd.R_alloc | apply Kd.R_drewN | apply Kd.R_drew)); exact HO420.out) hg (fun _ _ => by simp [Value.ownBlock])); have n3_ := Aside0.mk (Kd.R_grown (by (with_reducible repeat (first | apply Kd.R_alloc | apply Kd.R_drewN | apply Kd.R_drew)); exact HO424.out) hg (fun _ _ => by simp [Value.ownBlock])); have n4_ := Aside0.mk (hb); have n5_ := Aside0.mk (ho); clear HO412; clear HO415; clear HO420; clear HO424; clear HB; have HO412 := n0_; have HO415 := n1_; have HO420 := n2_; have HO424 := n3_; have HB := n4_; have HO427 := n5_; clear n0_ n1_ n2_ n3_ n4_ n5_; clear ho hb hg hat) | ((with_reducible refine gate_builtin (b := .append) (xs := #[.tmp 42, .tmp 43]) rfl ?_); at_builtin; refine Kd.N_append_rows k38 (w0 := w) w.heap.size rfl (.tmp 42) (.tmp 43) 22 38 (.agg #[(.bool false), (.int .i64 0), (.slice none 0 0), (.bool false), (.bool false), (.bool false), (.bool false), (.int .i64 0)]) 56 rfl Try.underlying22 info38 rfl (by decide) (by omega) v426 y425 y416 _ _ _ (fun k_ => some k_ ≠ (v419 : Value).ownBlock ∧ some k_ ≠ (v423 : Value).ownBlock) (fun k_ => ((fun k_ => some k_ ≠ (v419 : Value).ownBlock ∧ some k_ ≠ (v423 : Value).ownBlock)) k_ ∧ some k_ ≠ (v426 : Value).ownBlock) rfl rfl ?aO ?aR (fun _ hk => hk) ?aF ?aB ?aS ?aL ?_; (case aR => exact (by skip; exact Kd.N_F (Kd.N_mono (ok' := (fun k_ => ((fun k_ => some k_ ≠ (v419 : Value).ownBlock ∧ some k_ ≠ (v423 : Value).ownBlock)) k_ ∧ some k_ ≠ (v426 : Value).ownBlock)) (HO415.out) (fun k_ hk => ⟨⟨hk.1.1.2, hk.1.2⟩, hk.2⟩)))); (case aB => exact (by repeat (first | (with_reducible first | exact HB.out | apply below_alloc | apply pw_below_drewN | apply below_drew1) | exact HB.out))); (case aF => exact (fun k_ hk => ⟨Kd.fresh' (Kd.R_lt (by (with_reducible repeat (first | apply Kd.R_alloc | apply Kd.R_drewN | apply Kd.R_drew)); exact HO420.out)) k_ hk, Kd.fresh' (Kd.R_lt (by (with_reducible repeat (first | apply Kd.R_alloc | apply Kd.R_drewN | apply Kd.R_drew)); exact HO424.out)) k_ hk⟩)); (case aO => exact (by (with_reducible repeat (first | apply Kd.N_alloc | apply Kd.N_drewN | apply Kd.N_drew)); exact Kd.N_mono HO427.out (fun _ hk => ⟨hk.2.1, hk.2.2⟩))); (case aS => exact (below_size (by repeat (first | (with_reducible first | exact HB.out | apply below_alloc | apply pw_below_drewN | apply below_drew1) | exact HB.out)))); (case aL => have := LMc17.out; have hlx_ := (Kd.N_reads' HO415.out).1; omega); intro v429 w30 ho hb hg hat; rw [← Ny428.out] at ho; have n0_ := Aside0.mk (Kd.N_afterv (ok := (fun k_ => some k_ ≠ (.slice (some ⟨go13, 0, none⟩) t413.length co23 : Value).ownBlock ∧ some k_ ≠ (v419 : Value).ownBlock ∧ some k_ ≠ (v423 : Value).ownBlock)) (by (with_reducible repeat (first | apply Kd.N_alloc | apply Kd.N_drewN | apply Kd.N_drew)); exact Kd.N_mono HO412.out (fun _ hk => ⟨⟨hk.1.1.1.2, ⟨hk.1.1.2, hk.1.2⟩⟩, hk.2⟩)) hg hat); have n1_ := Aside0.mk (Kd.N_afterv (ok := (fun k_ => some k_ ≠ (.slice Ao26 t410.length co26 : Value).ownBlock ∧ some k_ ≠ (v419 : Value).ownBlock ∧ some k_ ≠ (v423 : Value).ownBlock)) (by (with_reducible repeat (first | apply Kd.N_alloc | apply Kd.N_drewN | apply Kd.N_drew)); exact Kd.N_mono HO415.out (fun _ hk => ⟨⟨hk.1.1.1, ⟨hk.1.1.2, hk.1.2⟩⟩, hk.2⟩)) hg hat); have n2_ := Aside0.mk (Kd.R_over' (by (with_reducible repeat (first | apply Kd.R_alloc | apply Kd.R_drewN | apply Kd.R_drew)); exact HO420.out) (Kd.N_typed (by (with_reducible repeat (first | apply Kd.N_alloc | apply Kd.N_drewN | apply Kd.N_drew)); exact HO427.out)) (by decide) hg); have n3_ := Aside0.mk (Kd.R_over' (by (with_reducible repeat (first | apply Kd.R_alloc | apply Kd.R_drewN | apply Kd.R_drew)); exact HO424.out) (Kd.N_typed (by (with_reducible repeat (first | apply Kd.N_alloc | apply Kd.N_drewN | apply Kd.N_drew)); exact HO427.out)) (by decide) hg); have n4_ := Aside0.mk (hb); have n5_ := Aside0.mk (ho); clear HO412; clear HO415; clear HO420; clear HO424; clear HB; clear HO427; have HO412 := n0_; have HO415 := n1_; have HO420 := n2_; have HO424 := n3_; have HB := n4_; have HO430 := n5_; clear n0_ n1_ n2_ n3_ n4_ n5_; clear ho hb hg hat; obtain ⟨Ao31, co31, eo31⟩ := Kd.N_slice HO430.out; subst eo31) | ((with_reducible refine gate_callee (f := 15) rfl ?_); refine goesL_ (some 45) rfl rfl Try.func15 (by kernel_rfl) rfl #[.slice Ao31 y428.length co31] rfl (by (try simp only [List.map_toArray, List.map_cons, List.map_nil]); first | done | rfl | (simp only [List.length_drop, List.length_take]; rfl)) ?_; (with_reducible refine (turns_Unfold.calls k _ _ y428 t431 t432 _ ?side1 ?side2 A18.out).mono ?_); (case side1 => repeat (first | exact (Kd.N_reads' HO430.out).2.2 | (with_reducible refine Kd.C_alloc ?_ _) | (with_reducible refine Kd.C_drewN ?_ _) | (with_reducible refine Kd.C_drew ?_))); (case side2 => exact (Kd.N_reads' HO430.out).2.1); rintro e w32 ⟨v433, rfl, ho0, hb⟩; refine ⟨_, rfl, ?_⟩; have n0_ := Aside0.mk (Kd.N_elder' (by (with_reducible repeat (first | apply Kd.N_alloc | apply Kd.N_drewN | apply Kd.N_drew)); exact HO412.out) (Kd.R_base ho0) hb); have n1_ := Aside0.mk (Kd.N_elder' (by (with_reducible repeat (first | apply Kd.N_alloc | apply Kd.N_drewN | apply Kd.N_drew)); exact HO415.out) (Kd.R_base ho0) hb); have n2_ := Aside0.mk (Kd.R_elder' (by (with_reducible repeat (first | apply Kd.R_alloc | apply Kd.R_drewN | apply Kd.R_drew)); exact HO420.out) (Kd.R_base ho0) hb); have n3_ := Aside0.mk (Kd.R_elder' (by (with_reducible repeat (first | apply Kd.R_alloc | apply Kd.R_drewN | apply Kd.R_drew)); exact HO424.out) (Kd.R_base ho0) hb); have n4_ := Aside0.mk (Kd.N_elder' (by (with_reducible repeat (first | apply Kd.N_alloc | apply Kd.N_drewN | apply Kd.N_drew)); exact HO430.out) (Kd.R_base ho0) hb); have n5_ := Aside0.mk (Kd.R_lower (Kd.R_new' (Kd.R_new' ho0 (Kd.R_lt (by (with_reducible repeat (first | apply Kd.R_alloc | apply Kd.R_drewN | apply Kd.R_drew)); exact HO420.out))) (Kd.R_lt (by (with_reducible repeat (first | apply Kd.R_alloc | apply Kd.R_drewN | apply Kd.R_drew)); exact HO424.out))) (below_size (by repeat (first | (with_reducible first | exact HB.out | apply below_alloc | apply pw_below_drewN | apply below_drew1) | exact HB.out)))); have n6_ := Aside0.mk (below_step (by repeat (first | (with_reducible first | exact HB.out | apply below_alloc | apply pw_below_drewN | apply below_drew1) | exact HB.out)) hb); clear HO412; clear HO415; clear HO420; clear HO424; clear HO430; clear HB; have HO412 := n0_; have HO415 := n1_; have HO420 := n2_; have HO424 := n3_; have HO430 := n4_; have HO434 := n5_; have HB := n6_; clear n0_ n1_ n2_ n3_ n4_ n5_ n6_; (try clear hb); (try clear hb2); (try clear hk); (try clear hi); (try clear ho0)))
            (try simp only [Act.put, List.setIfInBounds_toArray, List.set_cons_zero, List.set_cons_succ])
            go_cut [53] (fun v53 wc => ∃ (kq : Nat) (x53_18 : Bool), v53 = .bool x53_18 ∧ Aside0 (partitalaw10_TurnsParts.j0 kq true t410 t417 t418 t421 t422 t431 t432 x53_18 = some r) ∧ Aside0 (kq ≤ k) ∧ Aside0 (Kd.N k38 38 wc w.heap.size (fun k_ => some k_ ≠ (v419 : Value).ownBlock ∧ some k_ ≠ (v423 : Value).ownBlock ∧ some k_ ≠ (v433 : Value).ownBlock) (.slice Ao26 t410.length co26) t410) ∧ Aside0 (Kd.R (Kd.int .i64) 3 wc w.heap.size (fun k_ => some k_ ≠ (v423 : Value).ownBlock ∧ some k_ ≠ (v433 : Value).ownBlock) v419 t417) ∧ Aside0 (Kd.R (Kd.int .i64) 3 wc w.heap.size (fun k_ => some k_ ≠ (v419 : Value).ownBlock ∧ some k_ ≠ (v433 : Value).ownBlock) v423 t421) ∧ Aside0 (Kd.R (Kd.int .i64) 3 wc w.heap.size (fun k_ => some k_ ≠ (v419 : Value).ownBlock ∧ some k_ ≠ (v423 : Value).ownBlock) v433 t431) ∧ Aside0 (Below w.heap.size w wc))
            case first =>
              have H := HC19.out
              clear HC19
              by_cases c33 : t418 = 0
              · rw [if_pos c33] at H
                have c33b0 : (t418 == 0) = true := beq_iff_eq.mpr c33
                have c33b1 : (t418 != 0) = false := bne_eq_false_iff_eq.mpr c33
                clear c33
                (first | rw [c33b0] | (simp only [i64_w, i32_w]; rw [c33b0]) | skip)
                have H' := Aside0.mk H
                clear H
                go_wp2
                go_meet
                case rel => exact ⟨_, ((t422 != 0)), (by first | rfl | (simp; done) | (simp [*]; done)), H', ⟨by first | omega | exact Nat.le_refl _⟩, ⟨by (with_reducible repeat (first | apply Kd.N_alloc | apply Kd.N_drewN | apply Kd.N_drew)); exact Kd.N_mono HO412.out (fun _ hk => ⟨hk.1.1.2.1, ⟨hk.1.1.2.2, hk.2⟩⟩)⟩, ⟨by (with_reducible repeat (first | apply Kd.R_alloc | apply Kd.R_drewN | apply Kd.R_drew)); exact Kd.R_mono HO420.out (fun _ hk => ⟨hk.1.2, hk.2⟩)⟩, ⟨by (with_reducible repeat (first | apply Kd.R_alloc | apply Kd.R_drewN | apply Kd.R_drew)); exact Kd.R_mono HO424.out (fun _ hk => ⟨hk.1.2, hk.2⟩)⟩, ⟨by (with_reducible repeat (first | apply Kd.R_alloc | apply Kd.R_drewN | apply Kd.R_drew)); exact Kd.R_mono HO434.out (fun _ hk => ⟨hk.1.2, hk.2⟩)⟩, ⟨by repeat (first | (with_reducible first | exact HB.out | apply below_alloc | apply pw_below_drewN | apply below_drew1) | exact HB.out)⟩⟩
              · rw [if_neg c33] at H
                have c33b0 : (t418 == 0) = false := beq_eq_false_iff_ne.mpr c33
                have c33b1 : (t418 != 0) = true := bne_iff_ne.mpr c33
                (first | rw [c33b0] | (simp only [i64_w, i32_w]; rw [c33b0]) | skip)
                have H' := Aside0.mk H
                clear H
                go_wp2
                go_meet
                case rel => exact ⟨_, (true), (by first | rfl | (simp; done) | (simp [*]; done)), H', ⟨by first | omega | exact Nat.le_refl _⟩, ⟨by (with_reducible repeat (first | apply Kd.N_alloc | apply Kd.N_drewN | apply Kd.N_drew)); exact Kd.N_mono HO412.out (fun _ hk => ⟨hk.1.1.2.1, ⟨hk.1.1.2.2, hk.2⟩⟩)⟩, ⟨by (with_reducible repeat (first | apply Kd.R_alloc | apply Kd.R_drewN | apply Kd.R_drew)); exact Kd.R_mono HO420.out (fun _ hk => ⟨hk.1.2, hk.2⟩)⟩, ⟨by (with_reducible repeat (first | apply Kd.R_alloc | apply Kd.R_drewN | apply Kd.R_drew)); exact Kd.R_mono HO424.out (fun _ hk => ⟨hk.1.2, hk.2⟩)⟩, ⟨by (with_reducible repeat (first | apply Kd.R_alloc | apply Kd.R_drewN | apply Kd.R_drew)); exact Kd.R_mono HO434.out (fun _ hk => ⟨hk.1.2, hk.2⟩)⟩, ⟨by repeat (first | (with_reducible first | exact HB.out | apply below_alloc | apply pw_below_drewN | apply below_drew1) | exact HB.out)⟩⟩
            case rest =>
              clear HC19
              try clear c1
              try clear p1
              try clear q1
              try clear hx1
              try clear qi1
              try clear c2
              try clear p2
              try clear hx2
              try clear hf2
              try clear c3
              try clear c4
              try clear c7
              try clear c7b0
              try clear c7b1
              try clear c7b2
              try clear c8
              try clear c11
              try clear c12
              try clear c12b0
              try clear c12b1
              try clear c13
              try clear p13
              try clear q13
              try clear hx13
              try clear qi13
              try clear hf13
              try clear c15
              try clear c16
              try clear c17
              try clear c24
              try clear hx24
              try clear hf24
              try clear c33
              try clear c33b0
              try clear c33b1
              try clear hx13_0
              try clear hx13_1
              try clear hx13_2
              try clear hx13_3
              try clear hx13_4
              try clear hx13_5
              try clear hx13_6
              try clear hx13_7
              try clear hx24_0
              try clear p13
              try clear q13
              obtain ⟨kq, x53_18, rfl, HA, HJ18, HO_6, HO_8, HO_10, HO_12, HB⟩ := hcut
              cases kq with
              | zero => exact absurd HA.out (by simp [partitalaw10_TurnsParts.j0])
              | succ kj18 =>
                have H := HA.out
                clear HA
                simp only [partitalaw10_TurnsParts.j0] at H
                by_cases c34 : x53_18 = true
                · subst c34
                  have H1 : (if true = true then (if t432 = 101 then (if t418 = 0 then (if t422 = 0 then (some true) else (some (t422 == 101))) else (if t418 = 101 then (if t422 = 0 then (some true) else (some (t422 == 101))) else (some false))) else (some false)) else (some false)) = some r := by rw [if_pos rfl] at H; exact H
                  clear H
                  have H := H1
                  clear H1
                  by_cases c35 : true = true
                  · clear c35
                    have H1 : (if t432 = 101 then (if t418 = 0 then (if t422 = 0 then (some true) else (some (t422 == 101))) else (if t418 = 101 then (if t422 = 0 then (some true) else (some (t422 == 101))) else (some false))) else (some false)) = some r := by first | (rw [if_pos rfl] at H; exact H) | (rw [if_pos trivial] at H; exact H)
                    clear H
                    have H := H1
                    clear H1
                    by_cases c36 : t432 = 101
                    · rw [if_pos c36] at H
                      have c36b0 : (t432 == 101) = true := beq_iff_eq.mpr c36
                      have c36b1 : (t432 != 101) = false := bne_eq_false_iff_eq.mpr c36
                      clear c36
                      by_cases c37 : t418 = 0
                      · rw [if_pos c37] at H
                        have c37b0 : (t418 == 0) = true := beq_iff_eq.mpr c37
                        have c37b1 : (t418 != 0) = false := bne_eq_false_iff_eq.mpr c37
                        clear c37
                        by_cases c38 : t422 = 0
                        · rw [if_pos c38] at H
                          have c38b0 : (t422 == 0) = true := beq_iff_eq.mpr c38
                          have c38b1 : (t422 != 0) = false := bne_eq_false_iff_eq.mpr c38
                          clear c38
                          obtain rfl := Option.some.inj H
                          go_wp2
                          go_ret
                          exact ⟨by first | rfl | (simp [errW_none, errW_some] <;> rfl) | (simp [*, errW_none, errW_some] <;> rfl), by repeat (first | (with_reducible first | exact HB.out | apply below_alloc | apply pw_below_drewN | apply below_drew1) | exact HB.out)⟩
                        · rw [if_neg c38] at H
                          have c38b0 : (t422 == 0) = false := beq_eq_false_iff_ne.mpr c38
                          have c38b1 : (t422 != 0) = true := bne_iff_ne.mpr c38
                          obtain rfl := Option.some.inj H
                          go_wp2
                          go_ret
                          exact ⟨by first | rfl | (simp [errW_none, errW_some] <;> rfl) | (simp [*, errW_none, errW_some] <;> rfl), by repeat (first | (with_reducible first | exact HB.out | apply below_alloc | apply pw_below_drewN | apply below_drew1) | exact HB.out)⟩
                      · rw [if_neg c37] at H
                        have c37b0 : (t418 == 0) = false := beq_eq_false_iff_ne.mpr c37
                        have c37b1 : (t418 != 0) = true := bne_iff_ne.mpr c37
                        by_cases c39 : t418 = 101
                        · rw [if_pos c39] at H
                          have c39b0 : (t418 == 101) = true := beq_iff_eq.mpr c39
                          have c39b1 : (t418 != 101) = false := bne_eq_false_iff_eq.mpr c39
                          clear c39
                          by_cases c40 : t422 = 0
                          · rw [if_pos c40] at H
                            have c40b0 : (t422 == 0) = true := beq_iff_eq.mpr c40
                            have c40b1 : (t422 != 0) = false := bne_eq_false_iff_eq.mpr c40
                            clear c40
                            obtain rfl := Option.some.inj H
                            go_wp2
                            go_ret
                            exact ⟨by first | rfl | (simp [errW_none, errW_some] <;> rfl) | (simp [*, errW_none, errW_some] <;> rfl), by repeat (first | (with_reducible first | exact HB.out | apply below_alloc | apply pw_below_drewN | apply below_drew1) | exact HB.out)⟩
                          · rw [if_neg c40] at H
                            have c40b0 : (t422 == 0) = false := beq_eq_false_iff_ne.mpr c40
                            have c40b1 : (t422 != 0) = true := bne_iff_ne.mpr c40
                            obtain rfl := Option.some.inj H
                            go_wp2
                            go_ret
                            exact ⟨by first | rfl | (simp [errW_none, errW_some] <;> rfl) | (simp [*, errW_none, errW_some] <;> rfl), by repeat (first | (with_reducible first | exact HB.out | apply below_alloc | apply pw_below_drewN | apply below_drew1) | exact HB.out)⟩
                        · rw [if_neg c39] at H
                          have c39b0 : (t418 == 101) = false := beq_eq_false_iff_ne.mpr c39
                          have c39b1 : (t418 != 101) = true := bne_iff_ne.mpr c39
                          obtain rfl := Option.some.inj H
                          go_wp2
                          go_ret
                          exact ⟨by first | rfl | (simp [errW_none, errW_some] <;> rfl) | (simp [*, errW_none, errW_some] <;> rfl), by repeat (first | (with_reducible first | exact HB.out | apply below_alloc | apply pw_below_drewN | apply below_drew1) | exact HB.out)⟩
                    · rw [if_neg c36] at H
                      have c36b0 : (t432 == 101) = false := beq_eq_false_iff_ne.mpr c36
                      have c36b1 : (t432 != 101) = true := bne_iff_ne.mpr c36
                      obtain rfl := Option.some.inj H
                      go_wp2
                      go_ret
                      exact ⟨by first | rfl | (simp [errW_none, errW_some] <;> rfl) | (simp [*, errW_none, errW_some] <;> rfl), by repeat (first | (with_reducible first | exact HB.out | apply below_alloc | apply pw_below_drewN | apply below_drew1) | exact HB.out)⟩
                  · exact absurd rfl c35
                · replace c34 := Bool.eq_false_iff.mpr c34
                  subst c34
                  have H1 : (if ([] : List Int).length + t417.length < 17592186044416 then (partitalaw10_TurnsParts.l0 kj18 true t410 t421 t431 t432 (([] : List Int) ++ t417) 0) else (none)) = some r := by rw [if_neg (show ¬ (false = true) by decide)] at H; exact H
                  clear H
                  have H := H1
                  clear H1
                  by_cases c41 : ([] : List Int).length + t417.length < 17592186044416
                  · rw [if_pos c41] at H
                    have LMc41 := Aside0.mk c41
                    clear c41
                    obtain ⟨y435, hy435⟩ : ∃ y_ : List Int, y_ = (([] : List Int) ++ t417) := ⟨_, rfl⟩
                    replace H : (partitalaw10_TurnsParts.l0 kj18 true t410 t421 t431 t432 y435 0) = some r := by first | (rw [hy435]; with_reducible exact H) | (have H2_ := (Option.bind_some _ _).symm.trans H; rw [hy435]; with_reducible exact H2_) | (have H2_ := (Option.bind_some _ _).symm.trans H; with_reducible exact H2_) | with_reducible exact H | (rw [hy435]; exact H) | exact H
                    have Ny435 := Aside0.mk hy435
                    clear hy435
                    have H' := Aside0.mk H
                    clear H
                    obtain ⟨Ao43, co43, eo43⟩ := Kd.R_slice HO_8.out
                    subst eo43
                    go_wp2_with (first | ((with_reducible refine gate_builtin (b := .append) (xs := #[.const (.slice none 0 0), .tmp 75]) rfl ?_); at_builtin; refine Kd.R_append_rows (Kd.int .i64) (w0 := w) w.heap.size rfl (.const (.slice none 0 0)) (.tmp 75) 31 3 (.int .i64 0) 8 rfl Try.underlying31 info3 rfl (by decide) (by omega) (.slice none 0 0) ([] : List Int) t417 _ _ _ (fun k_ => some k_ ≠ (.slice Ao43 t417.length co43 : Value).ownBlock ∧ some k_ ≠ (v423 : Value).ownBlock ∧ some k_ ≠ (v433 : Value).ownBlock) (fun _ => False) rfl rfl ?aO ?aR (fun _ _ h => h) (fun _ h => h.elim) ?aF ?aB ?aS ?aL ?_; (case aR => repeat (first | exact (Kd.R_reads' HO_8.out).2.2 | (with_reducible refine Kd.C_alloc ?_ _) | (with_reducible refine Kd.C_drewN ?_ _) | (with_reducible refine Kd.C_drew ?_))); (case aB => exact (by repeat (first | (with_reducible first | exact HB.out | apply below_alloc | apply pw_below_drewN | apply below_drew1) | exact HB.out))); (case aF => exact (fun k_ hk => ⟨Kd.fresh' (Kd.R_lt (by (with_reducible repeat (first | apply Kd.R_alloc | apply Kd.R_drewN | apply Kd.R_drew)); exact HO_8.out)) k_ hk, Kd.fresh' (Kd.R_lt (by (with_reducible repeat (first | apply Kd.R_alloc | apply Kd.R_drewN | apply Kd.R_drew)); exact HO_10.out)) k_ hk, Kd.fresh' (Kd.R_lt (by (with_reducible repeat (first | apply Kd.R_alloc | apply Kd.R_drewN | apply Kd.R_drew)); exact HO_12.out)) k_ hk⟩)); (case aO => exact ((Kd.R_nil _ _ _ _ (fun k_ => some k_ ≠ (.slice Ao43 t417.length co43 : Value).ownBlock ∧ some k_ ≠ (v423 : Value).ownBlock ∧ some k_ ≠ (v433 : Value).ownBlock)))); (case aS => exact (below_size (by repeat (first | (with_reducible first | exact HB.out | apply below_alloc | apply pw_below_drewN | apply below_drew1) | exact HB.out)))); (case aL => have := LMc41.out; omega); intro v436 w42 ho hb hg hat; rw [← Ny435.out] at ho; have n0_ := Aside0.mk (Kd.N_afterv (Kd.N_apart_nil (by (with_reducible repeat (first | apply Kd.N_alloc | apply Kd.N_drewN | apply Kd.N_drew)); exact HO_6.out)) hg hat); have n1_ := Aside0.mk (Kd.R_after (Kd.R_apart_nil (by (with_reducible repeat (first | apply Kd.R_alloc | apply Kd.R_drewN | apply Kd.R_drew)); exact HO_8.out)) hg hat); have n2_ := Aside0.mk (Kd.R_after (Kd.R_apart_nil (by (with_reducible repeat (first | apply Kd.R_alloc | apply Kd.R_drewN | apply Kd.R_drew)); exact HO_10.out)) hg hat); have n3_ := Aside0.mk (Kd.R_after (Kd.R_apart_nil (by (with_reducible repeat (first | apply Kd.R_alloc | apply Kd.R_drewN | apply Kd.R_drew)); exact HO_12.out)) hg hat); have n4_ := Aside0.mk (hb); have n5_ := Aside0.mk (ho); clear HO_6; clear HO_8; clear HO_10; clear HO_12; clear HB; have HO_6 := n0_; have HO_8 := n1_; have HO_10 := n2_; have HO_12 := n3_; have HB := n4_; have HO437 := n5_; clear n0_ n1_ n2_ n3_ n4_ n5_; clear ho hb hg hat))
                    go_loopg [14, 15] kj18 (fun kq v14 v15 w' => ∃ (x14_2 : List Int) (x15_2 : Int), v15 = .int .i64 x15_2 ∧ Aside0 (partitalaw10_TurnsParts.l0 kq true t410 t421 t431 t432 x14_2 x15_2 = some r) ∧ Aside0 (kq ≤ kj18) ∧ Aside0 (Kd.N k38 38 w' w.heap.size (fun k_ => some k_ ≠ (v423 : Value).ownBlock ∧ some k_ ≠ (v433 : Value).ownBlock ∧ some k_ ≠ (v14 : Value).ownBlock) (.slice Ao26 t410.length co26) t410) ∧ Aside0 (Kd.R (Kd.int .i64) 3 w' w.heap.size (fun k_ => some k_ ≠ (v433 : Value).ownBlock ∧ some k_ ≠ (v14 : Value).ownBlock) v423 t421) ∧ Aside0 (Kd.R (Kd.int .i64) 3 w' w.heap.size (fun k_ => some k_ ≠ (v423 : Value).ownBlock ∧ some k_ ≠ (v14 : Value).ownBlock) v433 t431) ∧ Aside0 (Kd.R (Kd.int .i64) 3 w' w.heap.size (fun k_ => some k_ ≠ (v423 : Value).ownBlock ∧ some k_ ≠ (v433 : Value).ownBlock) v14 x14_2) ∧ Aside0 (Below w.heap.size w w'))
                    case atStart => exact ⟨(y435), (0), (by first | rfl | (simp; done) | (simp [*]; done)), H', ⟨Nat.le_refl _⟩, ⟨by (with_reducible repeat (first | apply Kd.N_alloc | apply Kd.N_drewN | apply Kd.N_drew)); exact Kd.N_mono HO_6.out (fun _ hk => ⟨hk.1.2.1, ⟨hk.1.2.2, hk.2⟩⟩)⟩, ⟨by (with_reducible repeat (first | apply Kd.R_alloc | apply Kd.R_drewN | apply Kd.R_drew)); exact Kd.R_mono HO_10.out (fun _ hk => ⟨hk.1.2, hk.2⟩)⟩, ⟨by (with_reducible repeat (first | apply Kd.R_alloc | apply Kd.R_drewN | apply Kd.R_drew)); exact Kd.R_mono HO_12.out (fun _ hk => ⟨hk.1.2, hk.2⟩)⟩, ⟨by (with_reducible repeat (first | apply Kd.R_alloc | apply Kd.R_drewN | apply Kd.R_drew)); exact Kd.R_mono HO437.out (fun _ hk => ⟨hk.2.1, hk.2.2⟩)⟩, ⟨by repeat (first | (with_reducible first | exact HB.out | apply below_alloc | apply pw_below_drewN | apply below_drew1) | exact HB.out)⟩⟩
                    case round =>
                      clear H'
                      try clear c1
                      try clear p1
                      try clear q1
                      try clear hx1
                      try clear qi1
                      try clear c2
                      try clear p2
                      try clear hx2
                      try clear hf2
                      try clear c3
                      try clear c4
                      try clear c7
                      try clear c7b0
                      try clear c7b1
                      try clear c7b2
                      try clear c8
                      try clear c11
                      try clear c12
                      try clear c12b0
                      try clear c12b1
                      try clear c13
                      try clear p13
                      try clear q13
                      try clear hx13
                      try clear qi13
                      try clear hf13
                      try clear c15
                      try clear c16
                      try clear c17
                      try clear c24
                      try clear hx24
                      try clear hf24
                      try clear c33
                      try clear c33b0
                      try clear c33b1
                      try clear c34
                      try clear c35
                      try clear c36
                      try clear c36b0
                      try clear c36b1
                      try clear c37
                      try clear c37b0
                      try clear c37b1
                      try clear c38
                      try clear c38b0
                      try clear c38b1
                      try clear c39
                      try clear c39b0
                      try clear c39b1
                      try clear c40
                      try clear c40b0
                      try clear c40b1
                      try clear c41
                      try clear hx13_0
                      try clear hx13_1
                      try clear hx13_2
                      try clear hx13_3
                      try clear hx13_4
                      try clear hx13_5
                      try clear hx13_6
                      try clear hx13_7
                      try clear hx24_0
                      try clear p1
                      try clear p13
                      try clear p2
                      try clear q1
                      try clear q13
                      obtain ⟨x14_2, x15_2, rfl, HA, HK2, HO_6, HO_10, HO_12, HO_14, HB⟩ := hrel
                      cases gk with
                      | zero => exact absurd HA.out (by simp [partitalaw10_TurnsParts.l0])
                      | succ k2 =>
                        have H := HA.out
                        clear HA
                        simp only [partitalaw10_TurnsParts.l0] at H
                        by_cases c44 : x15_2 < (t421.length : Int)
                        · rw [if_pos c44] at H
                          have c44b0 : decide (x15_2 < (t421.length : Int)) = true := decide_eq_true c44
                          clear c44
                          by_cases c45 : 0 ≤ x15_2
                          · rw [if_pos c45] at H
                            have c45b0 : decide (0 ≤ x15_2) = true := decide_eq_true c45
                            clear c45
                            by_cases c46 : x14_2.length < 17592186044416
                            · rw [if_pos c46] at H
                              have LMc46 := Aside0.mk c46
                              clear c46
                              obtain ⟨y439, hy439⟩ : ∃ y_ : List Int, y_ = (x14_2 ++ [wrap64 ((t410.length : Int) + (rd t421 x15_2))]) := ⟨_, rfl⟩
                              replace H : (partitalaw10_TurnsParts.l0 k2 true t410 t421 t431 t432 y439 (wrap64 (x15_2 + 1))) = some r := by first | (rw [hy439]; with_reducible exact H) | (have H2_ := (Option.bind_some _ _).symm.trans H; rw [hy439]; with_reducible exact H2_) | (have H2_ := (Option.bind_some _ _).symm.trans H; with_reducible exact H2_) | with_reducible exact H | (rw [hy439]; exact H) | exact H
                              have Ny439 := Aside0.mk hy439
                              clear hy439
                              have H' := Aside0.mk H
                              clear H
                              obtain ⟨Ao47, co47, eo47⟩ := Kd.R_slice HO_10.out
                              subst eo47
                              have p438 : 0 ≤ (x15_2 : Int) := of_decide_eq_true (by first | (with_reducible assumption) | assumption)
                              have q438 : x15_2 < (t421.length : Int) := of_decide_eq_true (by first | (with_reducible assumption) | assumption)
                              obtain ⟨ad438, e438, hx438_0⟩ := Kd.at_int (Kd.R_reads' HO_10.out).2.2 x15_2 p438 q438
                              cases e438
                              replace p438 := eq_true p438
                              replace q438 := eq_true q438
                              go_wp2_with (first | ((with_reducible refine gate_builtin (b := .append) (xs := #[.tmp 83, .tmp 91]) rfl ?_); at_builtin; refine Kd.R_append (Kd.int .i64) (w0 := w) w.heap.size rfl (.tmp 83) (.tmp 91) 31 3 (.int .i64 0) 8 rfl Try.underlying31 info3 rfl (by decide) (by omega) u14 x14_2 (wrap64 ((t410.length : Int) + (rd t421 x15_2))) [.int .i64 (wrap64 ((t410.length : Int) + (rd t421 x15_2)))] (fun k_ => some k_ ≠ (.slice (some ad438) t421.length co47 : Value).ownBlock ∧ some k_ ≠ (v433 : Value).ownBlock) (fun _ => False) rfl rfl ?aP (fun _ hk => hk.elim) ?aF ?aO ?aB ?aS ?aL ?_; (case aP => exact rfl); (case aB => exact (by repeat (first | (with_reducible first | exact HB.out | apply below_alloc | apply pw_below_drewN | apply below_drew1) | exact HB.out))); (case aF => exact (fun k_ hk => ⟨Kd.fresh' (Kd.R_lt (by (with_reducible repeat (first | apply Kd.R_alloc | apply Kd.R_drewN | apply Kd.R_drew)); exact HO_10.out)) k_ hk, Kd.fresh' (Kd.R_lt (by (with_reducible repeat (first | apply Kd.R_alloc | apply Kd.R_drewN | apply Kd.R_drew)); exact HO_12.out)) k_ hk⟩)); (case aO => exact (by (with_reducible repeat (first | apply Kd.R_alloc | apply Kd.R_drewN | apply Kd.R_drew)); exact HO_14.out)); (case aS => exact (below_size (by repeat (first | (with_reducible first | exact HB.out | apply below_alloc | apply pw_below_drewN | apply below_drew1) | exact HB.out)))); (case aL => have := LMc46.out; omega); intro v440 w48 ho hb hg hat; rw [← Ny439.out] at ho; have n0_ := Aside0.mk (Kd.N_afterv (ok := (fun k_ => some k_ ≠ (.slice (some ad438) t421.length co47 : Value).ownBlock ∧ some k_ ≠ (v433 : Value).ownBlock)) (by (with_reducible repeat (first | apply Kd.N_alloc | apply Kd.N_drewN | apply Kd.N_drew)); exact Kd.N_mono HO_6.out (fun _ hk => ⟨⟨hk.1, hk.2.1⟩, hk.2.2⟩)) hg hat); have n1_ := Aside0.mk (Kd.R_after (ok := (fun k_ => some k_ ≠ (v433 : Value).ownBlock)) (by (with_reducible repeat (first | apply Kd.R_alloc | apply Kd.R_drewN | apply Kd.R_drew)); exact HO_10.out) hg hat); have n2_ := Aside0.mk (Kd.R_after (ok := (fun k_ => some k_ ≠ (.slice (some ad438) t421.length co47 : Value).ownBlock)) (by (with_reducible repeat (first | apply Kd.R_alloc | apply Kd.R_drewN | apply Kd.R_drew)); exact HO_12.out) hg hat); have n3_ := Aside0.mk (hb); have n4_ := Aside0.mk (ho); clear HO_6; clear HO_10; clear HO_12; clear HB; clear HO_14; have HO_6 := n0_; have HO_10 := n1_; have HO_12 := n2_; have HB := n3_; have HO441 := n4_; clear n0_ n1_ n2_ n3_ n4_; clear ho hb hg hat))
                              go_roundg k2
                              case measure => have := HJ18.out; have := HK2.out; omega
                              case rel => exact ⟨(y439), (wrap64 (x15_2 + 1)), (by first | rfl | (simp; done) | (simp [*]; done)), H', ⟨by have := HJ18.out; have := HK2.out; omega⟩, ⟨by (with_reducible repeat (first | apply Kd.N_alloc | apply Kd.N_drewN | apply Kd.N_drew)); exact Kd.N_mono HO_6.out (fun _ hk => ⟨hk.1.1, ⟨hk.1.2, hk.2⟩⟩)⟩, ⟨by (with_reducible repeat (first | apply Kd.R_alloc | apply Kd.R_drewN | apply Kd.R_drew)); exact HO_10.out⟩, ⟨by (with_reducible repeat (first | apply Kd.R_alloc | apply Kd.R_drewN | apply Kd.R_drew)); exact HO_12.out⟩, ⟨by (with_reducible repeat (first | apply Kd.R_alloc | apply Kd.R_drewN | apply Kd.R_drew)); exact HO441.out⟩, ⟨by repeat (first | (with_reducible first | exact HB.out | apply below_alloc | apply pw_below_drewN | apply below_drew1) | exact HB.out)⟩⟩
                            · rw [if_neg c46] at H
                              exact absurd H (by simp)
                          · rw [if_neg c45] at H
                            exact absurd H (by simp)
                        · rw [if_neg c44] at H
                          have c44b0 : decide (x15_2 < (t421.length : Int)) = false := decide_eq_false c44
                          clear c44
                          by_cases c49 : (x14_2.length : Int) > 2000
                          · rw [if_pos c49] at H
                            have c49b0 : decide (2000 < (x14_2.length : Int)) = true := decide_eq_true c49
                            have c49b1 : decide (2000 < x14_2.length) = true := decide_eq_true (by omega)
                            clear c49
                            by_cases c50 : true = true
                            · clear c50
                              have H1 : (some (t432 == 101)) = some r := by first | (rw [if_pos rfl] at H; exact H) | (rw [if_pos trivial] at H; exact H)
                              clear H
                              have H := H1
                              clear H1
                              obtain rfl := Option.some.inj H
                              obtain ⟨Ao51, co51, eo51⟩ := Kd.R_slice HO_10.out
                              subst eo51
                              obtain ⟨Ao52, co52, eo52⟩ := Kd.R_slice HO_14.out
                              subst eo52
                              go_wp2
                              go_ret
                              exact ⟨by first | rfl | (simp [errW_none, errW_some] <;> rfl) | (simp [*, errW_none, errW_some] <;> rfl), by repeat (first | (with_reducible first | exact HB.out | apply below_alloc | apply pw_below_drewN | apply below_drew1) | exact HB.out)⟩
                            · exact absurd rfl c50
                          · rw [if_neg c49] at H
                            have c49b0 : decide (2000 < (x14_2.length : Int)) = false := decide_eq_false c49
                            have c49b1 : decide (2000 < x14_2.length) = false := decide_eq_false (by omega)
                            clear c49
                            by_cases c55 : true = true
                            · clear c55
                              have H1 : (if t432 = 0 then ((partitalaw10_ints.f k2 t431 x14_2).bind fun t442 => (some t442)) else (some false)) = some r := by first | (rw [if_pos rfl] at H; exact H) | (rw [if_pos trivial] at H; exact H)
                              clear H
                              have H := H1
                              clear H1
                              by_cases c56 : t432 = 0
                              · rw [if_pos c56] at H
                                have c56b0 : (t432 == 0) = true := beq_iff_eq.mpr c56
                                have c56b1 : (t432 != 0) = false := bne_eq_false_iff_eq.mpr c56
                                clear c56
                                replace H := Option.bind_eq_some_iff.mp H
                                obtain ⟨t442, A570, H⟩ := H
                                replace H : (some t442) = some r := H
                                have A57 := Aside0.mk A570
                                clear A570
                                obtain rfl := Option.some.inj H
                                obtain ⟨Ao58, co58, eo58⟩ := Kd.R_slice HO_10.out
                                subst eo58
                                obtain ⟨Ao59, co59, eo59⟩ := Kd.R_slice HO_14.out
                                subst eo59
                                obtain ⟨Ao60, co60, eo60⟩ := Kd.R_slice HO_12.out
                                subst eo60
                                go_wp2_with (first | (go_at_call 19; (with_reducible refine (partitalaw10_ints.calls k2 _ _ t431 _ _ x14_2 t442 _ ?side1 ?side2 ?side3 ?side4 A57.out).mono ?_); (case side1 => repeat (first | exact (Kd.R_reads' HO_12.out).2.2 | (with_reducible refine Kd.C_alloc ?_ _) | (with_reducible refine Kd.C_drewN ?_ _) | (with_reducible refine Kd.C_drew ?_))); (case side2 => exact (Kd.R_reads' HO_12.out).2.1); (case side3 => repeat (first | exact (Kd.R_reads' HO_14.out).2.2 | (with_reducible refine Kd.C_alloc ?_ _) | (with_reducible refine Kd.C_drewN ?_ _) | (with_reducible refine Kd.C_drew ?_))); (case side4 => exact (Kd.R_reads' HO_14.out).2.1); rintro e w' ⟨rfl, ⟨nd, rfl⟩⟩))
                                go_ret
                                exact ⟨by first | rfl | (simp [errW_none, errW_some] <;> rfl) | (simp [*, errW_none, errW_some] <;> rfl), by repeat (first | (with_reducible first | exact HB.out | apply below_alloc | apply pw_below_drewN | apply below_drew1) | exact HB.out)⟩
                              · rw [if_neg c56] at H
                                have c56b0 : (t432 == 0) = false := beq_eq_false_iff_ne.mpr c56
                                have c56b1 : (t432 != 0) = true := bne_iff_ne.mpr c56
                                obtain rfl := Option.some.inj H
                                obtain ⟨Ao61, co61, eo61⟩ := Kd.R_slice HO_10.out
                                subst eo61
                                obtain ⟨Ao62, co62, eo62⟩ := Kd.R_slice HO_14.out
                                subst eo62
                                go_wp2
                                go_ret
                                exact ⟨by first | rfl | (simp [errW_none, errW_some] <;> rfl) | (simp [*, errW_none, errW_some] <;> rfl), by repeat (first | (with_reducible first | exact HB.out | apply below_alloc | apply pw_below_drewN | apply below_drew1) | exact HB.out)⟩
                            · exact absurd rfl c55
                  · rw [if_neg c41] at H
                    exact absurd H (by simp)
          · rw [if_neg c17] at H
            exact absurd H (by simp)
        · rw [if_neg c16] at H
          exact absurd H (by simp)
      · rw [if_neg c12] at H
        exact absurd H (by simp)
  · replace c4 := Bool.eq_false_iff.mpr c4
    subst c4
    have H1 : (some false) = some r := by rw [if_neg (show ¬ (false = true) by decide)] at H; exact H
    clear H
    have H := H1
    clear H1
    obtain rfl := Option.some.inj H
    go_enter Try.func8, Try.ntmps8
    go_wp2_with (first | ((with_reducible refine gate_callee (f := 11) rfl ?_); refine goesL_ (some 16) rfl rfl Try.func11 (by kernel_rfl) rfl #[] rfl (by (try simp only [List.map_toArray, List.map_cons, List.map_nil]); first | done | rfl | (simp only [List.length_drop, List.length_take]; rfl)) ?_; (with_reducible refine (partitalaw10_examples.calls k  false _ A3.out).mono ?_); rintro e w65 ⟨rfl, hb⟩; refine ⟨_, rfl, ?_⟩; have n0_ := Aside0.mk (below_step (by repeat (first | (with_reducible first | exact HB.out | apply below_alloc | apply pw_below_drewN | apply below_drew1) | exact HB.out)) hb); clear HB; have HB := n0_; clear n0_; (try clear hb); (try clear hb2); (try clear hk); (try clear hi)))
    go_ret
    exact ⟨by first | rfl | (simp [errW_none, errW_some] <;> rfl) | (simp [*, errW_none, errW_some] <;> rfl), by repeat (first | (with_reducible first | exact HB.out | apply below_alloc | apply pw_below_drewN | apply below_drew1) | exact HB.out)⟩

end Go.Proofs.Ytendmmagjjhfnaa.M
