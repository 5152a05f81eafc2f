/- Printed by a program of this session (wip/tools), out of the translation: functions with the same answers as the Go code, and the contracts of the code. Lean checks it. -/
import Derived.Test.YtmeefdaanjaoaaaM0
import Derived.Test.YtmeefdaanjaoaaaM9
import Derived.Test.YtmeefdaanjaoaaaM16
import Derived.Test.YtmeefdaanjaoaaaM17
import Derived.Test.YtmeefdaanjaoaaaM18
import Derived.Test.YtmeefdaanjaoaaaM25
namespace Go.Proofs.Ytmeefdaanjaoaaa.M
open Go.RowKit Go.Proofs.YtmeefdaanjaoaaaW.PrintWords Go.Proofs.YtmeefdaanjaoaaaW.PrintLast Go.Proofs.YtmeefdaanjaoaaaW.PrintMore
attribute [local go_sem] max2_int min2_int max_two min_two max_three min_three max_four min_four   -- for this text's walks alone
set_option linter.unusedVariables false
set_option linter.unusedSimpArgs false

/-! ### partitalaw15_WireCut: function 12 -/
mutual
def partitalaw15_WireCut.j0 : Nat → List (S31) → Int → Bool → ByteArray → Bool → Option (Bool)
  | 0, _, _, _, _, _ => none
  | k + 1, x0, x1, x5, x6, x31 => if x31 = true then (some x5) else (if (x6.size : Int) = 0 then (none) else (if 0 ≤ (Int.tmod (wrap64 (x1)) (x6.size : Int)) then (if (Int.tmod (wrap64 (x1)) (x6.size : Int)) ≤ (x6.size : Int) then ((wire_Decode.f k (x6.extract 0 ((Int.tmod (wrap64 (x1)) (x6.size : Int)) : Int).toNat)).bind fun bt433 => (if bt433.2.2 = 0 then (if x5 = true then (if (bt433.1.length : Int) < (x0.length : Int) then (if 0 ≤ (bt433.1.length : Int) then (if (bt433.1.length : Int) ≤ (x0.length : Int) then ((partitaref15_Same.f k bt433.1 (x0.take ((bt433.1.length : Int) : Int).toNat)).bind fun t442 => (some t442)) else (none)) else (none)) else (some false)) else (some false)) else (if bt433.2.1 < 0 then (partitalaw15_WireCut.j1 k x0 x5 x6 bt433.2.1 bt433.2.2 true) else (partitalaw15_WireCut.j1 k x0 x5 x6 bt433.2.1 bt433.2.2 (decide (bt433.2.1 ≥ (Int.tmod (wrap64 (x1)) (x6.size : Int)))))))) else (none)) else (none)))
def partitalaw15_WireCut.j1 : Nat → List (S31) → Bool → ByteArray → Int → Int → Bool → Option (Bool)
  | 0, _, _, _, _, _, _ => none
  | k + 1, x0, x5, x6, x10, x11, x70 => if x70 = true then (some false) else (if 0 ≤ x10 then (if x10 ≤ (x6.size : Int) then ((wire_Decode.f k (x6.extract 0 (x10 : Int).toNat)).bind fun bt443 => (if x5 = true then (if x11 = 152 then (if bt443.2.2 = 0 then (if (bt443.1.length : Int) < (x0.length : Int) then (if 0 ≤ (bt443.1.length : Int) then (if (bt443.1.length : Int) ≤ (x0.length : Int) then ((partitaref15_Same.f k bt443.1 (x0.take ((bt443.1.length : Int) : Int).toNat)).bind fun t452 => (some t452)) else (none)) else (none)) else (some false)) else (some false)) else (some false)) else (some false))) else (none)) else (none))
end
def partitalaw15_WireCut.f (k : Nat) (l0 : List (S31)) (a1 : Int) : Option (Bool) := (partitalaw15_awake.f k).bind fun t429 => ((partitaref15_Few.f k l0).bind fun t430 => (if t430 = true then ((wire_Encode.f k l0).bind fun bt431 => (if bt431.2 = 0 then (partitalaw15_WireCut.j0 k l0 a1 t429 bt431.1 ((bt431.1.size : Int) == 0)) else (partitalaw15_WireCut.j0 k l0 a1 t429 bt431.1 true))) else (some t429)))
theorem partitalaw15_WireCut.mono_l : ∀ k, (∀ y0 y1 y2 y3 y4, LeO (partitalaw15_WireCut.j0 k y0 y1 y2 y3 y4) (partitalaw15_WireCut.j0 (k + 1) y0 y1 y2 y3 y4)) ∧ (∀ y0 y1 y2 y3 y4 y5, LeO (partitalaw15_WireCut.j1 k y0 y1 y2 y3 y4 y5) (partitalaw15_WireCut.j1 (k + 1) y0 y1 y2 y3 y4 y5))
  | 0 => ⟨fun _ _ _ _ _ r h => by simp [partitalaw15_WireCut.j0] at h, fun _ _ _ _ _ _ r h => by simp [partitalaw15_WireCut.j1] at h⟩
  | k + 1 => by
    obtain ⟨ih0, ih1⟩ := partitalaw15_WireCut.mono_l k
    refine ⟨?_, ?_⟩
    · intro y0 y1 y2 y3 y4
      unfold partitalaw15_WireCut.j0
      repeat' first
      | (with_reducible exact ih0 _ _ _ _ _)
      | (with_reducible exact ih1 _ _ _ _ _ _)
      | (with_reducible exact partitalaw15_awake.mono _)
      | (with_reducible exact partitaref15_Few.mono _ _)
      | (with_reducible exact partitaref15_Same.mono _ _ _)
      | (with_reducible exact wire_Decode.mono _ _)
      | (with_reducible exact wire_Encode.mono _ _)
      | (with_reducible exact LeO.refl _)
      | (with_reducible exact LeO.none _)
      | (with_reducible refine LeO.ite ?_ ?_)
      | (with_reducible refine LeO.bind ?_ (fun _ => ?_))
      | exact ih0 _ _ _ _ _
      | exact ih1 _ _ _ _ _ _
      | exact partitalaw15_awake.mono _
      | exact partitaref15_Few.mono _ _
      | exact partitaref15_Same.mono _ _ _
      | exact wire_Decode.mono _ _
      | exact wire_Encode.mono _ _
      | exact LeO.none _
      | refine LeO.ite ?_ ?_
      | refine LeO.bind ?_ (fun _ => ?_)
    · intro y0 y1 y2 y3 y4 y5
      unfold partitalaw15_WireCut.j1
      repeat' first
      | (with_reducible exact ih0 _ _ _ _ _)
      | (with_reducible exact ih1 _ _ _ _ _ _)
      | (with_reducible exact partitalaw15_awake.mono _)
      | (with_reducible exact partitaref15_Few.mono _ _)
      | (with_reducible exact partitaref15_Same.mono _ _ _)
      | (with_reducible exact wire_Decode.mono _ _)
      | (with_reducible exact wire_Encode.mono _ _)
      | (with_reducible exact LeO.refl _)
      | (with_reducible exact LeO.none _)
      | (with_reducible refine LeO.ite ?_ ?_)
      | (with_reducible refine LeO.bind ?_ (fun _ => ?_))
      | exact ih0 _ _ _ _ _
      | exact ih1 _ _ _ _ _ _
      | exact partitalaw15_awake.mono _
      | exact partitaref15_Few.mono _ _
      | exact partitaref15_Same.mono _ _ _
      | exact wire_Decode.mono _ _
      | exact wire_Encode.mono _ _
      | exact LeO.none _
      | refine LeO.ite ?_ ?_
      | refine LeO.bind ?_ (fun _ => ?_)
theorem partitalaw15_WireCut.mono : ∀ a0 a1 k, LeO (partitalaw15_WireCut.f k a0 a1) (partitalaw15_WireCut.f (k + 1) a0 a1) := by
  intro a0 a1 k
  obtain ⟨ih0, ih1⟩ := partitalaw15_WireCut.mono_l k
  unfold partitalaw15_WireCut.f
  repeat' first
      | (with_reducible exact ih0 _ _ _ _ _)
      | (with_reducible exact ih1 _ _ _ _ _ _)
      | (with_reducible exact partitalaw15_awake.mono _)
      | (with_reducible exact partitaref15_Few.mono _ _)
      | (with_reducible exact partitaref15_Same.mono _ _ _)
      | (with_reducible exact wire_Decode.mono _ _)
      | (with_reducible exact wire_Encode.mono _ _)
      | (with_reducible exact LeO.refl _)
      | (with_reducible exact LeO.none _)
      | (with_reducible refine LeO.ite ?_ ?_)
      | (with_reducible refine LeO.bind ?_ (fun _ => ?_))
      | exact ih0 _ _ _ _ _
      | exact ih1 _ _ _ _ _ _
      | exact partitalaw15_awake.mono _
      | exact partitaref15_Few.mono _ _
      | exact partitaref15_Same.mono _ _ _
      | exact wire_Decode.mono _ _
      | exact wire_Encode.mono _ _
      | exact LeO.none _
      | refine LeO.ite ?_ ?_
      | refine LeO.bind ?_ (fun _ => ?_)
set_option maxHeartbeats 8000000 in
set_option maxRecDepth 100000 in
theorem partitalaw15_WireCut.calls (k : Nat) (A0 : Option Addr) (c0 : Nat) (l0 : List (S31)) (a1 : Int) (r : Bool) (w : World) (hr0 : Kd.C k31 w A0 l0.length l0) (hc0 : l0.length ≤ c0) (h : partitalaw15_WireCut.f k l0 a1 = some r) :
    Calls Try.prog 12 #[.slice A0 l0.length c0, .int .u16 a1] w fun e w' => e = .returned (.bool r) ∧ Below w.heap.size w w' := by
  have HR0 := Aside0.mk hr0
  have HC0 := Aside0.mk hc0
  clear hr0 hc0
  have HB := Aside0.mk (Below.refl w.heap.size w)
  have H : ((partitalaw15_awake.f k).bind fun t429 => ((partitaref15_Few.f k l0).bind fun t430 => (if t430 = true then ((wire_Encode.f k l0).bind fun bt431 => (if bt431.2 = 0 then (partitalaw15_WireCut.j0 k l0 a1 t429 bt431.1 ((bt431.1.size : Int) == 0)) else (partitalaw15_WireCut.j0 k l0 a1 t429 bt431.1 true))) else (some t429)))) = some r := h
  clear h
  replace H := Option.bind_eq_some_iff.mp H
  obtain ⟨t429, A30, H⟩ := H
  replace H : ((partitaref15_Few.f k l0).bind fun t430 => (if t430 = true then ((wire_Encode.f k l0).bind fun bt431 => (if bt431.2 = 0 then (partitalaw15_WireCut.j0 k l0 a1 t429 bt431.1 ((bt431.1.size : Int) == 0)) else (partitalaw15_WireCut.j0 k l0 a1 t429 bt431.1 true))) else (some t429))) = some r := H
  have A3 := Aside0.mk A30
  clear A30
  replace H := Option.bind_eq_some_iff.mp H
  obtain ⟨t430, A40, H⟩ := H
  replace H : (if t430 = true then ((wire_Encode.f k l0).bind fun bt431 => (if bt431.2 = 0 then (partitalaw15_WireCut.j0 k l0 a1 t429 bt431.1 ((bt431.1.size : Int) == 0)) else (partitalaw15_WireCut.j0 k l0 a1 t429 bt431.1 true))) else (some t429)) = some r := H
  have A4 := Aside0.mk A40
  clear A40
  by_cases c5 : t430 = true
  · subst c5
    have H1 : ((wire_Encode.f k l0).bind fun bt431 => (if bt431.2 = 0 then (partitalaw15_WireCut.j0 k l0 a1 t429 bt431.1 ((bt431.1.size : Int) == 0)) else (partitalaw15_WireCut.j0 k l0 a1 t429 bt431.1 true))) = some r := by rw [if_pos rfl] at H; exact H
    clear H
    have H := H1
    clear H1
    replace H := Option.bind_eq_some_iff.mp H
    obtain ⟨⟨t431, t432⟩, A60, H⟩ := H
    replace H : (if t432 = 0 then (partitalaw15_WireCut.j0 k l0 a1 t429 t431 ((t431.size : Int) == 0)) else (partitalaw15_WireCut.j0 k l0 a1 t429 t431 true)) = some r := H
    have A6 := Aside0.mk A60
    clear A60
    have HC7 := Aside0.mk H
    clear H
    go_enter Try.func12, Try.ntmps12
    go_upto_region 5 with (first | ((with_reducible refine gate_callee (f := 14) rfl ?_); refine goesL_ (some 15) rfl rfl Try.func14 (by kernel_rfl) rfl #[] rfl (by (try simp only [List.map_toArray, List.map_cons, List.map_nil]); first | done | rfl | (simp only [List.length_drop, List.length_take]; rfl)) ?_; (with_reducible refine (partitalaw15_awake.calls k  t429 _ A3.out).mono ?_); rintro e w8 ⟨rfl, hb⟩; refine ⟨_, rfl, ?_⟩; have n0_ := Aside0.mk (below_step (by repeat (first | (with_reducible first | exact HB.out | apply below_alloc | apply pw_below_drewN | apply below_drew1) | exact HB.out)) hb); clear HB; have HB := n0_; clear n0_; (try clear hb); (try clear hb2); (try clear hk); (try clear hi)) | ((with_reducible refine gate_callee (f := 21) rfl ?_); refine goesL_ (some 17) rfl rfl Try.func21 (by kernel_rfl) rfl #[.slice A0 l0.length c0] rfl (by (try simp only [List.map_toArray, List.map_cons, List.map_nil]); first | done | rfl | (simp only [List.length_drop, List.length_take]; rfl)) ?_; (with_reducible refine (partitaref15_Few.calls k _ _ l0 true _ ?side1 ?side2 A4.out).mono ?_); (case side1 => repeat (first | exact (Kd.C_below HR0.out HB.out) | (with_reducible refine Kd.C_alloc ?_ _) | (with_reducible refine Kd.C_drewN ?_ _) | (with_reducible refine Kd.C_drew ?_))); (case side2 => exact HC0.out); rintro e w' ⟨rfl, ⟨nd, rfl⟩⟩; refine ⟨_, rfl, ?_⟩) | ((with_reducible refine gate_callee (f := 22) rfl ?_); refine goesL_ (some 22) rfl rfl Try.func22 (by kernel_rfl) rfl #[.slice A0 l0.length c0] rfl (by (try simp only [List.map_toArray, List.map_cons, List.map_nil]); first | done | rfl | (simp only [List.length_drop, List.length_take]; rfl)) ?_; (with_reducible refine (wire_Encode.calls k _ _ l0 t431 t432 _ ?side1 ?side2 A6.out).mono ?_); (case side1 => repeat (first | exact (Kd.C_below HR0.out (by repeat (first | (with_reducible first | exact HB.out | apply below_alloc | apply pw_below_drewN | apply below_drew1) | exact HB.out))) | (with_reducible refine Kd.C_alloc ?_ _) | (with_reducible refine Kd.C_drewN ?_ _) | (with_reducible refine Kd.C_drew ?_))); (case side2 => exact HC0.out); rintro e w9 ⟨rfl, hb⟩; refine ⟨_, rfl, ?_⟩; have n0_ := Aside0.mk (below_step (by repeat (first | (with_reducible first | exact HB.out | apply below_alloc | apply pw_below_drewN | apply below_drew1) | exact HB.out)) hb); clear HB; have HB := n0_; clear n0_; (try clear hb); (try clear hb2); (try clear hk); (try clear hi)))
    (try simp only [Act.put, List.setIfInBounds_toArray, List.set_cons_zero, List.set_cons_succ])
    go_cut [31] (fun v31 wc => ∃ (kq : Nat) (x31_6 : Bool), v31 = .bool x31_6 ∧ Aside0 (partitalaw15_WireCut.j0 kq l0 a1 t429 t431 x31_6 = some r) ∧ Aside0 (kq ≤ k) ∧ Aside0 (Below w.heap.size w wc))
    case first =>
      have H := HC7.out
      clear HC7
      by_cases c10 : t432 = 0
      · rw [if_pos c10] at H
        have c10b0 : (t432 == 0) = true := beq_iff_eq.mpr c10
        have c10b1 : (t432 != 0) = false := bne_eq_false_iff_eq.mpr c10
        clear c10
        (first | rw [c10b0] | (simp only [i64_w, i32_w]; rw [c10b0]) | skip)
        have H' := Aside0.mk H
        clear H
        go_wp2
        go_meet
        case rel => exact ⟨_, (((t431.size : Int) == 0)), (by first | rfl | (simp; done) | (simp [*]; done)), H', ⟨by first | omega | exact Nat.le_refl _⟩, ⟨by repeat (first | (with_reducible first | exact HB.out | apply below_alloc | apply pw_below_drewN | apply below_drew1) | exact HB.out)⟩⟩
      · rw [if_neg c10] at H
        have c10b0 : (t432 == 0) = false := beq_eq_false_iff_ne.mpr c10
        have c10b1 : (t432 != 0) = true := bne_iff_ne.mpr c10
        (first | rw [c10b0] | (simp only [i64_w, i32_w]; rw [c10b0]) | skip)
        have H' := Aside0.mk H
        clear H
        go_wp2
        go_meet
        case rel => exact ⟨_, (true), (by first | rfl | (simp; done) | (simp [*]; done)), H', ⟨by first | omega | exact Nat.le_refl _⟩, ⟨by repeat (first | (with_reducible first | exact HB.out | apply below_alloc | apply pw_below_drewN | apply below_drew1) | exact HB.out)⟩⟩
    case rest =>
      clear HC7
      try clear c1
      try clear c2
      try clear p2
      try clear c5
      try clear c10
      try clear c10b0
      try clear c10b1
      obtain ⟨kq, x31_6, rfl, HA, HJ6, HB⟩ := hcut
      cases kq with
      | zero => exact absurd HA.out (by simp [partitalaw15_WireCut.j0])
      | succ kj6 =>
        have H := HA.out
        clear HA
        simp only [partitalaw15_WireCut.j0] at H
        by_cases c11 : x31_6 = true
        · subst c11
          have H1 : (some t429) = some r := by rw [if_pos rfl] at H; exact H
          clear H
          have H := H1
          clear H1
          obtain rfl := Option.some.inj H
          go_wp2
          go_ret
          exact ⟨by first | rfl | (simp [errW_none, errW_some] <;> rfl) | (simp [*, errW_none, errW_some] <;> rfl), by repeat (first | (with_reducible first | exact HB.out | apply below_alloc | apply pw_below_drewN | apply below_drew1) | exact HB.out)⟩
        · replace c11 := Bool.eq_false_iff.mpr c11
          subst c11
          have H1 : (if (t431.size : Int) = 0 then (none) else (if 0 ≤ (Int.tmod (wrap64 (a1)) (t431.size : Int)) then (if (Int.tmod (wrap64 (a1)) (t431.size : Int)) ≤ (t431.size : Int) then ((wire_Decode.f kj6 (t431.extract 0 ((Int.tmod (wrap64 (a1)) (t431.size : Int)) : Int).toNat)).bind fun bt433 => (if bt433.2.2 = 0 then (if t429 = true then (if (bt433.1.length : Int) < (l0.length : Int) then (if 0 ≤ (bt433.1.length : Int) then (if (bt433.1.length : Int) ≤ (l0.length : Int) then ((partitaref15_Same.f kj6 bt433.1 (l0.take ((bt433.1.length : Int) : Int).toNat)).bind fun t442 => (some t442)) else (none)) else (none)) else (some false)) else (some false)) else (if bt433.2.1 < 0 then (partitalaw15_WireCut.j1 kj6 l0 t429 t431 bt433.2.1 bt433.2.2 true) else (partitalaw15_WireCut.j1 kj6 l0 t429 t431 bt433.2.1 bt433.2.2 (decide (bt433.2.1 ≥ (Int.tmod (wrap64 (a1)) (t431.size : Int)))))))) else (none)) else (none))) = some r := by rw [if_neg (show ¬ (false = true) by decide)] at H; exact H
          clear H
          have H := H1
          clear H1
          by_cases c12 : (t431.size : Int) = 0
          · rw [if_pos c12] at H
            exact absurd H (by simp)
          · rw [if_neg c12] at H
            have c12b0 : ((t431.size : Int) == 0) = false := beq_eq_false_iff_ne.mpr c12
            have c12b1 : ((t431.size : Int) != 0) = true := bne_iff_ne.mpr c12
            obtain ⟨ji13, hji13⟩ : ∃ j_ : Int, (Int.tmod (wrap64 (a1)) (t431.size : Int)) = j_ := ⟨_, rfl⟩
            replace H : (if 0 ≤ (ji13) then (if (ji13) ≤ (t431.size : Int) then ((wire_Decode.f kj6 (t431.extract 0 ((ji13) : Int).toNat)).bind fun bt433 => (if bt433.2.2 = 0 then (if t429 = true then (if (bt433.1.length : Int) < (l0.length : Int) then (if 0 ≤ (bt433.1.length : Int) then (if (bt433.1.length : Int) ≤ (l0.length : Int) then ((partitaref15_Same.f kj6 bt433.1 (l0.take ((bt433.1.length : Int) : Int).toNat)).bind fun t442 => (some t442)) else (none)) else (none)) else (some false)) else (some false)) else (if bt433.2.1 < 0 then (partitalaw15_WireCut.j1 kj6 l0 t429 t431 bt433.2.1 bt433.2.2 true) else (partitalaw15_WireCut.j1 kj6 l0 t429 t431 bt433.2.1 bt433.2.2 (decide (bt433.2.1 ≥ (ji13))))))) else (none)) else (none)) = some r := by first | (rw [hji13] at H; exact H) | (simp only [hji13] at H ⊢; exact H)
            by_cases c14 : 0 ≤ (ji13)
            · rw [if_pos c14] at H
              have c14b0 := eq_true c14
              have c14b1 : decide (0 ≤ (ji13)) = true := decide_eq_true c14
              clear c14
              by_cases c15 : (ji13) ≤ (t431.size : Int)
              · rw [if_pos c15] at H
                have c15b0 := eq_true c15
                have c15b1 : decide ((ji13) ≤ (t431.size : Int)) = true := decide_eq_true c15
                clear c15
                replace H := Option.bind_eq_some_iff.mp H
                obtain ⟨⟨t433, t434, t435⟩, A160, H⟩ := H
                replace H : (if t435 = 0 then (if t429 = true then (if (t433.length : Int) < (l0.length : Int) then (if 0 ≤ (t433.length : Int) then (if (t433.length : Int) ≤ (l0.length : Int) then ((partitaref15_Same.f kj6 t433 (l0.take ((t433.length : Int) : Int).toNat)).bind fun t442 => (some t442)) else (none)) else (none)) else (some false)) else (some false)) else (if t434 < 0 then (partitalaw15_WireCut.j1 kj6 l0 t429 t431 t434 t435 true) else (partitalaw15_WireCut.j1 kj6 l0 t429 t431 t434 t435 (decide (t434 ≥ (ji13)))))) = some r := H
                have A16 := Aside0.mk A160
                clear A160
                by_cases c17 : t435 = 0
                · rw [if_pos c17] at H
                  have c17b0 : (t435 == 0) = true := beq_iff_eq.mpr c17
                  have c17b1 : (t435 != 0) = false := bne_eq_false_iff_eq.mpr c17
                  clear c17
                  by_cases c18 : t429 = true
                  · subst c18
                    have H1 : (if (t433.length : Int) < (l0.length : Int) then (if 0 ≤ (t433.length : Int) then (if (t433.length : Int) ≤ (l0.length : Int) then ((partitaref15_Same.f kj6 t433 (l0.take ((t433.length : Int) : Int).toNat)).bind fun t442 => (some t442)) else (none)) else (none)) else (some false)) = some r := by rw [if_pos rfl] at H; exact H
                    clear H
                    have H := H1
                    clear H1
                    by_cases c19 : (t433.length : Int) < (l0.length : Int)
                    · rw [if_pos c19] at H
                      have c19b0 : decide ((t433.length : Int) < (l0.length : Int)) = true := decide_eq_true c19
                      have c19b1 : decide (t433.length < l0.length) = true := decide_eq_true (Int.ofNat_lt.mp c19)
                      clear c19
                      by_cases c20 : 0 ≤ (t433.length : Int)
                      · rw [if_pos c20] at H
                        have c20b0 := eq_true c20
                        have c20b1 : decide (0 ≤ (t433.length : Int)) = true := decide_eq_true c20
                        clear c20
                        by_cases c21 : (t433.length : Int) ≤ (l0.length : Int)
                        · rw [if_pos c21] at H
                          have c21b0 := eq_true c21
                          have c21b1 : decide ((t433.length : Int) ≤ (l0.length : Int)) = true := decide_eq_true c21
                          clear c21
                          obtain ⟨y438, hy438⟩ : ∃ y_ : List (S31), y_ = (l0.take ((t433.length : Int) : Int).toNat) := ⟨_, rfl⟩
                          replace H : ((partitaref15_Same.f kj6 t433 y438).bind fun t442 => (some t442)) = some r := by first | (rw [hy438]; with_reducible exact H) | (have H2_ := (Option.bind_some _ _).symm.trans H; rw [hy438]; with_reducible exact H2_) | (have H2_ := (Option.bind_some _ _).symm.trans H; with_reducible exact H2_) | with_reducible exact H | (rw [hy438]; exact H) | exact H
                          have Ny438 := Aside0.mk hy438
                          clear hy438
                          replace H := Option.bind_eq_some_iff.mp H
                          obtain ⟨t442, A220, H⟩ := H
                          replace H : (some t442) = some r := H
                          have A22 := Aside0.mk A220
                          clear A220
                          obtain rfl := Option.some.inj H
                          go_wp2_with (first | ((with_reducible refine gate_callee (f := 24) rfl ?_); refine goesL_ (some 42) rfl rfl Try.func24 (by kernel_rfl) rfl #[.string (t431.extract 0 ((ji13) : Int).toNat)] rfl (by (try simp only [List.map_toArray, List.map_cons, List.map_nil]); first | done | (simp only [hji13]; rfl) | rfl | (simp only [List.length_drop, List.length_take]; rfl)) ?_; (with_reducible refine (wire_Decode.calls kj6 (t431.extract 0 ((ji13) : Int).toNat) t433 t434 t435 _ A16.out).mono ?_); rintro e w23 ⟨v436, rfl, ho0, hb⟩; refine ⟨_, rfl, ?_⟩; have n0_ := Aside0.mk (Kd.R_lower ho0 (below_size (by repeat (first | (with_reducible first | exact HB.out | apply below_alloc | apply pw_below_drewN | apply below_drew1) | exact HB.out)))); have n1_ := Aside0.mk (below_step (by repeat (first | (with_reducible first | exact HB.out | apply below_alloc | apply pw_below_drewN | apply below_drew1) | exact HB.out)) hb); clear HB; have HO437 := n0_; have HB := n1_; clear n0_ n1_; (try clear hb); (try clear hb2); (try clear hk); (try clear hi); (try clear ho0); obtain ⟨Ao24, co24, eo24⟩ := Kd.R_slice HO437.out; subst eo24; have q25 : ((t433.length : Int) : Int) ≤ ((l0.length : Int) : Int) := of_decide_eq_true (by first | (with_reducible assumption) | assumption); obtain ⟨i025, hi025, _, hsz25, _⟩ := info_parts info31; have hroom25 : l0.length ≤ c0 := HC0.out; have hC25 : Kd.C k31 _ A0 l0.length l0 := HR0.out; have hcut25 := cut_to (P := Try.prog) 33 31 .i64 Try.underlying33 hi025 A0 l0.length c0 (t433.length : Int) (of_decide_eq_true (by first | (with_reducible assumption) | assumption)) q25 hroom25; have hr25 := Kd.C_take (m := ((t433.length : Int) : Int).toNat) hC25 (by omega); have hy25 : y438.length = ((t433.length : Int) : Int).toNat := (by rw [Ny438.out, List.length_take]; omega); rw [← Ny438.out] at hr25; rw [← hy25] at hcut25; have HR441 := Aside0.mk hr25; have HC441 := Aside0.mk (show y438.length ≤ c0 from by omega); clear hr25 hC25 hroom25 hi025 hsz25; have KY25 := Aside0.mk hy25; clear hy25; replace q25 := eq_true q25) | (go_at_call 26; (with_reducible refine (partitaref15_Same.calls kj6 _ _ t433 _ _ y438 t442 _ ?side1 ?side2 ?side3 ?side4 A22.out).mono ?_); (case side1 => repeat (first | exact (Kd.R_reads' HO437.out).2.2 | (with_reducible refine Kd.C_alloc ?_ _) | (with_reducible refine Kd.C_drewN ?_ _) | (with_reducible refine Kd.C_drew ?_))); (case side2 => exact (Kd.R_reads' HO437.out).2.1); (case side3 => repeat (first | exact (Kd.C_below HR441.out HB.out) | (with_reducible refine Kd.C_alloc ?_ _) | (with_reducible refine Kd.C_drewN ?_ _) | (with_reducible refine Kd.C_drew ?_))); (case side4 => exact HC441.out); rintro e w' ⟨rfl, ⟨nd, rfl⟩⟩))
                          go_ret
                          exact ⟨by first | rfl | (simp [errW_none, errW_some] <;> rfl) | (simp only [← hji13]; first | rfl | (simp [errW_none, errW_some] <;> rfl)) | (simp [*, errW_none, errW_some] <;> rfl), by repeat (first | (with_reducible first | exact HB.out | apply below_alloc | apply pw_below_drewN | apply below_drew1) | exact HB.out)⟩
                        · rw [if_neg c21] at H
                          exact absurd H (by simp)
                      · rw [if_neg c20] at H
                        exact absurd H (by simp)
                    · rw [if_neg c19] at H
                      have c19b0 : decide ((t433.length : Int) < (l0.length : Int)) = false := decide_eq_false c19
                      have c19b1 : decide (t433.length < l0.length) = false := decide_eq_false (fun h => c19 (Int.ofNat_lt.mpr h))
                      clear c19
                      obtain rfl := Option.some.inj H
                      go_wp2_with (first | ((with_reducible refine gate_callee (f := 24) rfl ?_); refine goesL_ (some 42) rfl rfl Try.func24 (by kernel_rfl) rfl #[.string (t431.extract 0 ((ji13) : Int).toNat)] rfl (by (try simp only [List.map_toArray, List.map_cons, List.map_nil]); first | done | (simp only [hji13]; rfl) | rfl | (simp only [List.length_drop, List.length_take]; rfl)) ?_; (with_reducible refine (wire_Decode.calls kj6 (t431.extract 0 ((ji13) : Int).toNat) t433 t434 t435 _ A16.out).mono ?_); rintro e w26 ⟨v436, rfl, ho0, hb⟩; refine ⟨_, rfl, ?_⟩; have n0_ := Aside0.mk (Kd.R_lower ho0 (below_size (by repeat (first | (with_reducible first | exact HB.out | apply below_alloc | apply pw_below_drewN | apply below_drew1) | exact HB.out)))); have n1_ := Aside0.mk (below_step (by repeat (first | (with_reducible first | exact HB.out | apply below_alloc | apply pw_below_drewN | apply below_drew1) | exact HB.out)) hb); clear HB; have HO437 := n0_; have HB := n1_; clear n0_ n1_; (try clear hb); (try clear hb2); (try clear hk); (try clear hi); (try clear ho0); obtain ⟨Ao27, co27, eo27⟩ := Kd.R_slice HO437.out; subst eo27))
                      go_ret
                      exact ⟨by first | rfl | (simp [errW_none, errW_some] <;> rfl) | (simp only [← hji13]; first | rfl | (simp [errW_none, errW_some] <;> rfl)) | (simp [*, errW_none, errW_some] <;> rfl), by repeat (first | (with_reducible first | exact HB.out | apply below_alloc | apply pw_below_drewN | apply below_drew1) | exact HB.out)⟩
                  · replace c18 := Bool.eq_false_iff.mpr c18
                    subst c18
                    have H1 : (some false) = some r := by rw [if_neg (show ¬ (false = true) by decide)] at H; exact H
                    clear H
                    have H := H1
                    clear H1
                    obtain rfl := Option.some.inj H
                    go_wp2_with (first | ((with_reducible refine gate_callee (f := 24) rfl ?_); refine goesL_ (some 42) rfl rfl Try.func24 (by kernel_rfl) rfl #[.string (t431.extract 0 ((ji13) : Int).toNat)] rfl (by (try simp only [List.map_toArray, List.map_cons, List.map_nil]); first | done | (simp only [hji13]; rfl) | rfl | (simp only [List.length_drop, List.length_take]; rfl)) ?_; (with_reducible refine (wire_Decode.calls kj6 (t431.extract 0 ((ji13) : Int).toNat) t433 t434 t435 _ A16.out).mono ?_); rintro e w28 ⟨v436, rfl, ho0, hb⟩; refine ⟨_, rfl, ?_⟩; have n0_ := Aside0.mk (Kd.R_lower ho0 (below_size (by repeat (first | (with_reducible first | exact HB.out | apply below_alloc | apply pw_below_drewN | apply below_drew1) | exact HB.out)))); have n1_ := Aside0.mk (below_step (by repeat (first | (with_reducible first | exact HB.out | apply below_alloc | apply pw_below_drewN | apply below_drew1) | exact HB.out)) hb); clear HB; have HO437 := n0_; have HB := n1_; clear n0_ n1_; (try clear hb); (try clear hb2); (try clear hk); (try clear hi); (try clear ho0)))
                    go_ret
                    exact ⟨by first | rfl | (simp [errW_none, errW_some] <;> rfl) | (simp only [← hji13]; first | rfl | (simp [errW_none, errW_some] <;> rfl)) | (simp [*, errW_none, errW_some] <;> rfl), by repeat (first | (with_reducible first | exact HB.out | apply below_alloc | apply pw_below_drewN | apply below_drew1) | exact HB.out)⟩
                · rw [if_neg c17] at H
                  have c17b0 : (t435 == 0) = false := beq_eq_false_iff_ne.mpr c17
                  have c17b1 : (t435 != 0) = true := bne_iff_ne.mpr c17
                  have HC29 := Aside0.mk H
                  clear H
                  go_upto_region 11 with (first | ((with_reducible refine gate_callee (f := 24) rfl ?_); refine goesL_ (some 42) rfl rfl Try.func24 (by kernel_rfl) rfl #[.string (t431.extract 0 ((ji13) : Int).toNat)] rfl (by (try simp only [List.map_toArray, List.map_cons, List.map_nil]); first | done | (simp only [hji13]; rfl) | rfl | (simp only [List.length_drop, List.length_take]; rfl)) ?_; (with_reducible refine (wire_Decode.calls kj6 (t431.extract 0 ((ji13) : Int).toNat) t433 t434 t435 _ A16.out).mono ?_); rintro e w30 ⟨v436, rfl, ho0, hb⟩; refine ⟨_, rfl, ?_⟩; have n0_ := Aside0.mk (Kd.R_lower ho0 (below_size (by repeat (first | (with_reducible first | exact HB.out | apply below_alloc | apply pw_below_drewN | apply below_drew1) | exact HB.out)))); have n1_ := Aside0.mk (below_step (by repeat (first | (with_reducible first | exact HB.out | apply below_alloc | apply pw_below_drewN | apply below_drew1) | exact HB.out)) hb); clear HB; have HO437 := n0_; have HB := n1_; clear n0_ n1_; (try clear hb); (try clear hb2); (try clear hk); (try clear hi); (try clear ho0)))
                  (try simp only [Act.put, List.setIfInBounds_toArray, List.set_cons_zero, List.set_cons_succ])
                  go_cut [70] (fun v70 wc => ∃ (kq : Nat) (x70_28 : Bool), v70 = .bool x70_28 ∧ Aside0 (partitalaw15_WireCut.j1 kq l0 t429 t431 t434 t435 x70_28 = some r) ∧ Aside0 (kq ≤ kj6) ∧ Aside0 (Below w.heap.size w wc))
                  case first =>
                    have H := HC29.out
                    clear HC29
                    by_cases c31 : t434 < 0
                    · rw [if_pos c31] at H
                      have c31b0 : decide (t434 < 0) = true := decide_eq_true c31
                      clear c31
                      (first | rw [c31b0] | (simp only [i64_w, i32_w]; rw [c31b0]) | skip)
                      have H' := Aside0.mk H
                      clear H
                      go_wp2
                      go_meet
                      case rel => exact ⟨_, (true), (by first | rfl | (simp; done) | (simp [*]; done)), H', ⟨by have := HJ6.out; first | omega | exact Nat.le_refl _⟩, ⟨by repeat (first | (with_reducible first | exact HB.out | apply below_alloc | apply pw_below_drewN | apply below_drew1) | exact HB.out)⟩⟩
                    · rw [if_neg c31] at H
                      have c31b0 : decide (t434 < 0) = false := decide_eq_false c31
                      clear c31
                      (first | rw [c31b0] | (simp only [i64_w, i32_w]; rw [c31b0]) | skip)
                      have H' := Aside0.mk H
                      clear H
                      go_wp2
                      go_meet
                      case rel => exact ⟨_, (decide (t434 ≥ (ji13))), (by first | rfl | (simp; done) | (simp only [← hji13] <;> (first | rfl | simp)) | (simp [*]; done)), H', ⟨by have := HJ6.out; first | omega | exact Nat.le_refl _⟩, ⟨by repeat (first | (with_reducible first | exact HB.out | apply below_alloc | apply pw_below_drewN | apply below_drew1) | exact HB.out)⟩⟩
                  case rest =>
                    clear HC29
                    try clear c1
                    try clear c2
                    try clear p2
                    try clear q2
                    try clear c3
                    try clear c5
                    try clear p6
                    try clear c10
                    try clear c10b0
                    try clear c10b1
                    try clear c11
                    try clear c12
                    try clear c12b0
                    try clear c12b1
                    try clear c14
                    try clear c14b0
                    try clear c14b1
                    try clear c15
                    try clear c15b0
                    try clear c15b1
                    try clear c17
                    try clear c17b0
                    try clear c17b1
                    try clear c18
                    try clear c19
                    try clear c19b0
                    try clear c19b1
                    try clear c20
                    try clear c20b0
                    try clear c20b1
                    try clear c21
                    try clear c21b0
                    try clear c21b1
                    try clear c22
                    try clear c24
                    try clear q25
                    try clear c31
                    try clear c31b0
                    try clear p2
                    try clear q25
                    obtain ⟨kq, x70_28, rfl, HA, HJ28, HB⟩ := hcut
                    cases kq with
                    | zero => exact absurd HA.out (by simp [partitalaw15_WireCut.j1])
                    | succ kj28 =>
                      have H := HA.out
                      clear HA
                      simp only [partitalaw15_WireCut.j1] at H
                      by_cases c32 : x70_28 = true
                      · subst c32
                        have H1 : (some false) = some r := by rw [if_pos rfl] at H; exact H
                        clear H
                        have H := H1
                        clear H1
                        obtain rfl := Option.some.inj H
                        go_wp2
                        go_ret
                        exact ⟨by first | rfl | (simp [errW_none, errW_some] <;> rfl) | (simp only [← hji13]; first | rfl | (simp [errW_none, errW_some] <;> rfl)) | (simp [*, errW_none, errW_some] <;> rfl), by repeat (first | (with_reducible first | exact HB.out | apply below_alloc | apply pw_below_drewN | apply below_drew1) | exact HB.out)⟩
                      · replace c32 := Bool.eq_false_iff.mpr c32
                        subst c32
                        have H1 : (if 0 ≤ t434 then (if t434 ≤ (t431.size : Int) then ((wire_Decode.f kj28 (t431.extract 0 (t434 : Int).toNat)).bind fun bt443 => (if t429 = true then (if t435 = 152 then (if bt443.2.2 = 0 then (if (bt443.1.length : Int) < (l0.length : Int) then (if 0 ≤ (bt443.1.length : Int) then (if (bt443.1.length : Int) ≤ (l0.length : Int) then ((partitaref15_Same.f kj28 bt443.1 (l0.take ((bt443.1.length : Int) : Int).toNat)).bind fun t452 => (some t452)) else (none)) else (none)) else (some false)) else (some false)) else (some false)) else (some false))) else (none)) else (none)) = some r := by rw [if_neg (show ¬ (false = true) by decide)] at H; exact H
                        clear H
                        have H := H1
                        clear H1
                        by_cases c33 : 0 ≤ t434
                        · rw [if_pos c33] at H
                          have c33b0 := eq_true c33
                          have c33b1 : decide (0 ≤ t434) = true := decide_eq_true c33
                          clear c33
                          by_cases c34 : t434 ≤ (t431.size : Int)
                          · rw [if_pos c34] at H
                            have c34b0 := eq_true c34
                            have c34b1 : decide (t434 ≤ (t431.size : Int)) = true := decide_eq_true c34
                            clear c34
                            replace H := Option.bind_eq_some_iff.mp H
                            obtain ⟨⟨t443, t444, t445⟩, A350, H⟩ := H
                            replace H : (if t429 = true then (if t435 = 152 then (if t445 = 0 then (if (t443.length : Int) < (l0.length : Int) then (if 0 ≤ (t443.length : Int) then (if (t443.length : Int) ≤ (l0.length : Int) then ((partitaref15_Same.f kj28 t443 (l0.take ((t443.length : Int) : Int).toNat)).bind fun t452 => (some t452)) else (none)) else (none)) else (some false)) else (some false)) else (some false)) else (some false)) = some r := H
                            have A35 := Aside0.mk A350
                            clear A350
                            by_cases c36 : t429 = true
                            · subst c36
                              have H1 : (if t435 = 152 then (if t445 = 0 then (if (t443.length : Int) < (l0.length : Int) then (if 0 ≤ (t443.length : Int) then (if (t443.length : Int) ≤ (l0.length : Int) then ((partitaref15_Same.f kj28 t443 (l0.take ((t443.length : Int) : Int).toNat)).bind fun t452 => (some t452)) else (none)) else (none)) else (some false)) else (some false)) else (some false)) = some r := by rw [if_pos rfl] at H; exact H
                              clear H
                              have H := H1
                              clear H1
                              by_cases c37 : t435 = 152
                              · rw [if_pos c37] at H
                                have c37b0 : (t435 == 152) = true := beq_iff_eq.mpr c37
                                have c37b1 : (t435 != 152) = false := bne_eq_false_iff_eq.mpr c37
                                clear c37
                                by_cases c38 : t445 = 0
                                · rw [if_pos c38] at H
                                  have c38b0 : (t445 == 0) = true := beq_iff_eq.mpr c38
                                  have c38b1 : (t445 != 0) = false := bne_eq_false_iff_eq.mpr c38
                                  clear c38
                                  by_cases c39 : (t443.length : Int) < (l0.length : Int)
                                  · rw [if_pos c39] at H
                                    have c39b0 : decide ((t443.length : Int) < (l0.length : Int)) = true := decide_eq_true c39
                                    have c39b1 : decide (t443.length < l0.length) = true := decide_eq_true (Int.ofNat_lt.mp c39)
                                    clear c39
                                    by_cases c40 : 0 ≤ (t443.length : Int)
                                    · rw [if_pos c40] at H
                                      have c40b0 := eq_true c40
                                      have c40b1 : decide (0 ≤ (t443.length : Int)) = true := decide_eq_true c40
                                      clear c40
                                      by_cases c41 : (t443.length : Int) ≤ (l0.length : Int)
                                      · rw [if_pos c41] at H
                                        have c41b0 := eq_true c41
                                        have c41b1 : decide ((t443.length : Int) ≤ (l0.length : Int)) = true := decide_eq_true c41
                                        clear c41
                                        obtain ⟨y448, hy448⟩ : ∃ y_ : List (S31), y_ = (l0.take ((t443.length : Int) : Int).toNat) := ⟨_, rfl⟩
                                        replace H : ((partitaref15_Same.f kj28 t443 y448).bind fun t452 => (some t452)) = some r := by first | (rw [hy448]; with_reducible exact H) | (have H2_ := (Option.bind_some _ _).symm.trans H; rw [hy448]; with_reducible exact H2_) | (have H2_ := (Option.bind_some _ _).symm.trans H; with_reducible exact H2_) | with_reducible exact H | (rw [hy448]; exact H) | exact H
                                        have Ny448 := Aside0.mk hy448
                                        clear hy448
                                        replace H := Option.bind_eq_some_iff.mp H
                                        obtain ⟨t452, A420, H⟩ := H
                                        replace H : (some t452) = some r := H
                                        have A42 := Aside0.mk A420
                                        clear A420
                                        obtain rfl := Option.some.inj H
                                        go_wp2_with (first | ((with_reducible refine gate_callee (f := 24) rfl ?_); refine goesL_ (some 75) rfl rfl Try.func24 (by kernel_rfl) rfl #[.string (t431.extract 0 (t434 : Int).toNat)] rfl (by (try simp only [List.map_toArray, List.map_cons, List.map_nil]); first | done | rfl | (simp only [List.length_drop, List.length_take]; rfl)) ?_; (with_reducible refine (wire_Decode.calls kj28 (t431.extract 0 (t434 : Int).toNat) t443 t444 t445 _ A35.out).mono ?_); rintro e w43 ⟨v446, rfl, ho0, hb⟩; refine ⟨_, rfl, ?_⟩; have n0_ := Aside0.mk (Kd.R_lower ho0 (below_size (by repeat (first | (with_reducible first | exact HB.out | apply below_alloc | apply pw_below_drewN | apply below_drew1) | exact HB.out)))); have n1_ := Aside0.mk (below_step (by repeat (first | (with_reducible first | exact HB.out | apply below_alloc | apply pw_below_drewN | apply below_drew1) | exact HB.out)) hb); clear HB; have HO447 := n0_; have HB := n1_; clear n0_ n1_; (try clear hb); (try clear hb2); (try clear hk); (try clear hi); (try clear ho0); obtain ⟨Ao44, co44, eo44⟩ := Kd.R_slice HO447.out; subst eo44; have q45 : ((t443.length : Int) : Int) ≤ ((l0.length : Int) : Int) := of_decide_eq_true (by first | (with_reducible assumption) | assumption); obtain ⟨i045, hi045, _, hsz45, _⟩ := info_parts info31; have hroom45 : l0.length ≤ c0 := HC0.out; have hC45 : Kd.C k31 _ A0 l0.length l0 := HR0.out; have hcut45 := cut_to (P := Try.prog) 33 31 .i64 Try.underlying33 hi045 A0 l0.length c0 (t443.length : Int) (of_decide_eq_true (by first | (with_reducible assumption) | assumption)) q45 hroom45; have hr45 := Kd.C_take (m := ((t443.length : Int) : Int).toNat) hC45 (by omega); have hy45 : y448.length = ((t443.length : Int) : Int).toNat := (by rw [Ny448.out, List.length_take]; omega); rw [← Ny448.out] at hr45; rw [← hy45] at hcut45; have HR451 := Aside0.mk hr45; have HC451 := Aside0.mk (show y448.length ≤ c0 from by omega); clear hr45 hC45 hroom45 hi045 hsz45; have KY45 := Aside0.mk hy45; clear hy45; replace q45 := eq_true q45) | (go_at_call 26; (with_reducible refine (partitaref15_Same.calls kj28 _ _ t443 _ _ y448 t452 _ ?side1 ?side2 ?side3 ?side4 A42.out).mono ?_); (case side1 => repeat (first | exact (Kd.R_reads' HO447.out).2.2 | (with_reducible refine Kd.C_alloc ?_ _) | (with_reducible refine Kd.C_drewN ?_ _) | (with_reducible refine Kd.C_drew ?_))); (case side2 => exact (Kd.R_reads' HO447.out).2.1); (case side3 => repeat (first | exact (Kd.C_below HR451.out HB.out) | (with_reducible refine Kd.C_alloc ?_ _) | (with_reducible refine Kd.C_drewN ?_ _) | (with_reducible refine Kd.C_drew ?_))); (case side4 => exact HC451.out); rintro e w' ⟨rfl, ⟨nd, rfl⟩⟩))
                                        go_ret
                                        exact ⟨by first | rfl | (simp [errW_none, errW_some] <;> rfl) | (simp only [← hji13]; first | rfl | (simp [errW_none, errW_some] <;> rfl)) | (simp [*, errW_none, errW_some] <;> rfl), by repeat (first | (with_reducible first | exact HB.out | apply below_alloc | apply pw_below_drewN | apply below_drew1) | exact HB.out)⟩
                                      · rw [if_neg c41] at H
                                        exact absurd H (by simp)
                                    · rw [if_neg c40] at H
                                      exact absurd H (by simp)
                                  · rw [if_neg c39] at H
                                    have c39b0 : decide ((t443.length : Int) < (l0.length : Int)) = false := decide_eq_false c39
                                    have c39b1 : decide (t443.length < l0.length) = false := decide_eq_false (fun h => c39 (Int.ofNat_lt.mpr h))
                                    clear c39
                                    obtain rfl := Option.some.inj H
                                    go_wp2_with (first | ((with_reducible refine gate_callee (f := 24) rfl ?_); refine goesL_ (some 75) rfl rfl Try.func24 (by kernel_rfl) rfl #[.string (t431.extract 0 (t434 : Int).toNat)] rfl (by (try simp only [List.map_toArray, List.map_cons, List.map_nil]); first | done | rfl | (simp only [List.length_drop, List.length_take]; rfl)) ?_; (with_reducible refine (wire_Decode.calls kj28 (t431.extract 0 (t434 : Int).toNat) t443 t444 t445 _ A35.out).mono ?_); rintro e w46 ⟨v446, rfl, ho0, hb⟩; refine ⟨_, rfl, ?_⟩; have n0_ := Aside0.mk (Kd.R_lower ho0 (below_size (by repeat (first | (with_reducible first | exact HB.out | apply below_alloc | apply pw_below_drewN | apply below_drew1) | exact HB.out)))); have n1_ := Aside0.mk (below_step (by repeat (first | (with_reducible first | exact HB.out | apply below_alloc | apply pw_below_drewN | apply below_drew1) | exact HB.out)) hb); clear HB; have HO447 := n0_; have HB := n1_; clear n0_ n1_; (try clear hb); (try clear hb2); (try clear hk); (try clear hi); (try clear ho0); obtain ⟨Ao47, co47, eo47⟩ := Kd.R_slice HO447.out; subst eo47))
                                    go_ret
                                    exact ⟨by first | rfl | (simp [errW_none, errW_some] <;> rfl) | (simp only [← hji13]; first | rfl | (simp [errW_none, errW_some] <;> rfl)) | (simp [*, errW_none, errW_some] <;> rfl), by repeat (first | (with_reducible first | exact HB.out | apply below_alloc | apply pw_below_drewN | apply below_drew1) | exact HB.out)⟩
                                · rw [if_neg c38] at H
                                  have c38b0 : (t445 == 0) = false := beq_eq_false_iff_ne.mpr c38
                                  have c38b1 : (t445 != 0) = true := bne_iff_ne.mpr c38
                                  obtain rfl := Option.some.inj H
                                  go_wp2_with (first | ((with_reducible refine gate_callee (f := 24) rfl ?_); refine goesL_ (some 75) rfl rfl Try.func24 (by kernel_rfl) rfl #[.string (t431.extract 0 (t434 : Int).toNat)] rfl (by (try simp only [List.map_toArray, List.map_cons, List.map_nil]); first | done | rfl | (simp only [List.length_drop, List.length_take]; rfl)) ?_; (with_reducible refine (wire_Decode.calls kj28 (t431.extract 0 (t434 : Int).toNat) t443 t444 t445 _ A35.out).mono ?_); rintro e w48 ⟨v446, rfl, ho0, hb⟩; refine ⟨_, rfl, ?_⟩; have n0_ := Aside0.mk (Kd.R_lower ho0 (below_size (by repeat (first | (with_reducible first | exact HB.out | apply below_alloc | apply pw_below_drewN | apply below_drew1) | exact HB.out)))); have n1_ := Aside0.mk (below_step (by repeat (first | (with_reducible first | exact HB.out | apply below_alloc | apply pw_below_drewN | apply below_drew1) | exact HB.out)) hb); clear HB; have HO447 := n0_; have HB := n1_; clear n0_ n1_; (try clear hb); (try clear hb2); (try clear hk); (try clear hi); (try clear ho0)))
                                  go_ret
                                  exact ⟨by first | rfl | (simp [errW_none, errW_some] <;> rfl) | (simp only [← hji13]; first | rfl | (simp [errW_none, errW_some] <;> rfl)) | (simp [*, errW_none, errW_some] <;> rfl), by repeat (first | (with_reducible first | exact HB.out | apply below_alloc | apply pw_below_drewN | apply below_drew1) | exact HB.out)⟩
                              · rw [if_neg c37] at H
                                have c37b0 : (t435 == 152) = false := beq_eq_false_iff_ne.mpr c37
                                have c37b1 : (t435 != 152) = true := bne_iff_ne.mpr c37
                                obtain rfl := Option.some.inj H
                                go_wp2_with (first | ((with_reducible refine gate_callee (f := 24) rfl ?_); refine goesL_ (some 75) rfl rfl Try.func24 (by kernel_rfl) rfl #[.string (t431.extract 0 (t434 : Int).toNat)] rfl (by (try simp only [List.map_toArray, List.map_cons, List.map_nil]); first | done | rfl | (simp only [List.length_drop, List.length_take]; rfl)) ?_; (with_reducible refine (wire_Decode.calls kj28 (t431.extract 0 (t434 : Int).toNat) t443 t444 t445 _ A35.out).mono ?_); rintro e w49 ⟨v446, rfl, ho0, hb⟩; refine ⟨_, rfl, ?_⟩; have n0_ := Aside0.mk (Kd.R_lower ho0 (below_size (by repeat (first | (with_reducible first | exact HB.out | apply below_alloc | apply pw_below_drewN | apply below_drew1) | exact HB.out)))); have n1_ := Aside0.mk (below_step (by repeat (first | (with_reducible first | exact HB.out | apply below_alloc | apply pw_below_drewN | apply below_drew1) | exact HB.out)) hb); clear HB; have HO447 := n0_; have HB := n1_; clear n0_ n1_; (try clear hb); (try clear hb2); (try clear hk); (try clear hi); (try clear ho0)))
                                go_ret
                                exact ⟨by first | rfl | (simp [errW_none, errW_some] <;> rfl) | (simp only [← hji13]; first | rfl | (simp [errW_none, errW_some] <;> rfl)) | (simp [*, errW_none, errW_some] <;> rfl), by repeat (first | (with_reducible first | exact HB.out | apply below_alloc | apply pw_below_drewN | apply below_drew1) | exact HB.out)⟩
                            · replace c36 := Bool.eq_false_iff.mpr c36
                              subst c36
                              have H1 : (some false) = some r := by rw [if_neg (show ¬ (false = true) by decide)] at H; exact H
                              clear H
                              have H := H1
                              clear H1
                              obtain rfl := Option.some.inj H
                              go_wp2_with (first | ((with_reducible refine gate_callee (f := 24) rfl ?_); refine goesL_ (some 75) rfl rfl Try.func24 (by kernel_rfl) rfl #[.string (t431.extract 0 (t434 : Int).toNat)] rfl (by (try simp only [List.map_toArray, List.map_cons, List.map_nil]); first | done | rfl | (simp only [List.length_drop, List.length_take]; rfl)) ?_; (with_reducible refine (wire_Decode.calls kj28 (t431.extract 0 (t434 : Int).toNat) t443 t444 t445 _ A35.out).mono ?_); rintro e w50 ⟨v446, rfl, ho0, hb⟩; refine ⟨_, rfl, ?_⟩; have n0_ := Aside0.mk (Kd.R_lower ho0 (below_size (by repeat (first | (with_reducible first | exact HB.out | apply below_alloc | apply pw_below_drewN | apply below_drew1) | exact HB.out)))); have n1_ := Aside0.mk (below_step (by repeat (first | (with_reducible first | exact HB.out | apply below_alloc | apply pw_below_drewN | apply below_drew1) | exact HB.out)) hb); clear HB; have HO447 := n0_; have HB := n1_; clear n0_ n1_; (try clear hb); (try clear hb2); (try clear hk); (try clear hi); (try clear ho0)))
                              go_ret
                              exact ⟨by first | rfl | (simp [errW_none, errW_some] <;> rfl) | (simp only [← hji13]; first | rfl | (simp [errW_none, errW_some] <;> rfl)) | (simp [*, errW_none, errW_some] <;> rfl), by repeat (first | (with_reducible first | exact HB.out | apply below_alloc | apply pw_below_drewN | apply below_drew1) | exact HB.out)⟩
                          · rw [if_neg c34] at H
                            exact absurd H (by simp)
                        · rw [if_neg c33] at H
                          exact absurd H (by simp)
              · rw [if_neg c15] at H
                exact absurd H (by simp)
            · rw [if_neg c14] at H
              exact absurd H (by simp)
  · replace c5 := Bool.eq_false_iff.mpr c5
    subst c5
    have H1 : (some t429) = some r := by rw [if_neg (show ¬ (false = true) by decide)] at H; exact H
    clear H
    have H := H1
    clear H1
    obtain rfl := Option.some.inj H
    go_enter Try.func12, Try.ntmps12
    go_wp2_with (first | ((with_reducible refine gate_callee (f := 14) rfl ?_); refine goesL_ (some 15) rfl rfl Try.func14 (by kernel_rfl) rfl #[] rfl (by (try simp only [List.map_toArray, List.map_cons, List.map_nil]); first | done | rfl | (simp only [List.length_drop, List.length_take]; rfl)) ?_; (with_reducible refine (partitalaw15_awake.calls k  t429 _ A3.out).mono ?_); rintro e w51 ⟨rfl, hb⟩; refine ⟨_, rfl, ?_⟩; have n0_ := Aside0.mk (below_step (by repeat (first | (with_reducible first | exact HB.out | apply below_alloc | apply pw_below_drewN | apply below_drew1) | exact HB.out)) hb); clear HB; have HB := n0_; clear n0_; (try clear hb); (try clear hb2); (try clear hk); (try clear hi)) | ((with_reducible refine gate_callee (f := 21) rfl ?_); refine goesL_ (some 17) rfl rfl Try.func21 (by kernel_rfl) rfl #[.slice A0 l0.length c0] rfl (by (try simp only [List.map_toArray, List.map_cons, List.map_nil]); first | done | rfl | (simp only [List.length_drop, List.length_take]; rfl)) ?_; (with_reducible refine (partitaref15_Few.calls k _ _ l0 false _ ?side1 ?side2 A4.out).mono ?_); (case side1 => repeat (first | exact (Kd.C_below HR0.out HB.out) | (with_reducible refine Kd.C_alloc ?_ _) | (with_reducible refine Kd.C_drewN ?_ _) | (with_reducible refine Kd.C_drew ?_))); (case side2 => exact HC0.out); rintro e w' ⟨rfl, ⟨nd, rfl⟩⟩; refine ⟨_, rfl, ?_⟩))
    go_ret
    exact ⟨by first | rfl | (simp [errW_none, errW_some] <;> rfl) | (simp [*, errW_none, errW_some] <;> rfl), by repeat (first | (with_reducible first | exact HB.out | apply below_alloc | apply pw_below_drewN | apply below_drew1) | exact HB.out)⟩

end Go.Proofs.Ytmeefdaanjaoaaa.M
