/- Functions and contracts printed by a program of this session (wip/tools), and texts by hand: Print, Parse, and the plain answers (part 3). -/
import Derived.Lib.SlBytesConst
import Derived.Test.YtdmnknhlibaaoaaC1
import Derived.Test.YtdmnknhlibaaoaaC2
namespace Go.Proofs.Ytdmnknhlibaaoaa.M
open Go.RowKit Go.Proofs.YtdmnknhlibaaoaaW.PrintWords Go.Proofs.YtdmnknhlibaaoaaW.PrintLast Go.Proofs.YtdmnknhlibaaoaaW.PrintMore
attribute [local go_sem] max2_int min2_int max_two min_two max_three min_three max_four min_four
set_option linter.unusedVariables false
set_option linter.unusedSimpArgs false
attribute [local go_sem high] eqA28
def api_Midi_27.l0 : Nat → List (S28) → List (S28) → Int → Int → Option (Bool)
  | 0, _, _, _, _ => none
  | k + 1, x0, x1, x12, x13 => if x13 < x12 then (if 0 ≤ x13 then (if x13 < (x0.length : Int) then (if x13 < (x1.length : Int) then (if (!(((rd_T28 x0 x13).f0) == ((rd_T28 x1 x13).f0)) || (!(((rd_T28 x0 x13).f1) == ((rd_T28 x1 x13).f1)) || (!(((rd_T28 x0 x13).f2) == ((rd_T28 x1 x13).f2)) || (!(((rd_T28 x0 x13).f3) == ((rd_T28 x1 x13).f3)) || (!(((rd_T28 x0 x13).f4) == ((rd_T28 x1 x13).f4)) || (!((((rd_T28 x0 x13).f5).toList) == (((rd_T28 x1 x13).f5).toList)))))))) = true then (some false) else (api_Midi_27.l0 k x0 x1 x12 (wrap64 (x13 + 1)))) else (none)) else (none)) else (none)) else (some true)
def api_Midi_27.f (k : Nat) (l0 : List (S28)) (l1 : List (S28)) : Option (Bool) := if (l0.length : Int) = (l1.length : Int) then (api_Midi_27.l0 k l0 l1 (l0.length : Int) 0) else (some false)
theorem api_Midi_27.mono_l : ∀ k, (∀ y0 y1 y2 y3, LeO (api_Midi_27.l0 k y0 y1 y2 y3) (api_Midi_27.l0 (k + 1) y0 y1 y2 y3))
  | 0 => fun _ _ _ _ r h => by simp [api_Midi_27.l0] at h
  | k + 1 => by
    have ih0 := api_Midi_27.mono_l k
    · intro y0 y1 y2 y3
      unfold api_Midi_27.l0
      repeat' first
      | (with_reducible exact ih0 _ _ _ _)
      | (with_reducible exact LeO.refl _)
      | (with_reducible exact LeO.none _)
      | (with_reducible refine LeO.ite ?_ ?_)
      | (with_reducible refine LeO.bind ?_ (fun _ => ?_))
      | exact ih0 _ _ _ _
      | exact LeO.none _
      | refine LeO.ite ?_ ?_
      | refine LeO.bind ?_ (fun _ => ?_)
theorem api_Midi_27.mono : ∀ a0 a1 k, LeO (api_Midi_27.f k a0 a1) (api_Midi_27.f (k + 1) a0 a1) := by
  intro a0 a1 k
  have ih0 := api_Midi_27.mono_l k
  unfold api_Midi_27.f
  repeat' first
      | (with_reducible exact ih0 _ _ _ _)
      | (with_reducible exact LeO.refl _)
      | (with_reducible exact LeO.none _)
      | (with_reducible refine LeO.ite ?_ ?_)
      | (with_reducible refine LeO.bind ?_ (fun _ => ?_))
      | exact ih0 _ _ _ _
      | exact LeO.none _
      | refine LeO.ite ?_ ?_
      | refine LeO.bind ?_ (fun _ => ?_)
set_option maxHeartbeats 8000000 in
set_option maxRecDepth 100000 in
theorem api_Midi_27.calls (k : Nat) (A0 : Option Addr) (c0 : Nat) (l0 : List (S28)) (A1 : Option Addr) (c1 : Nat) (l1 : List (S28)) (r : Bool) (w : World) (hr0 : Kd.C k28 w A0 l0.length l0) (hc0 : l0.length ≤ c0) (hr1 : Kd.C k28 w A1 l1.length l1) (hc1 : l1.length ≤ c1) (h : api_Midi_27.f k l0 l1 = some r) :
    Calls Try.prog 27 #[.slice A0 l0.length c0, .slice A1 l1.length c1] w fun e w' => e = .returned (.bool r) ∧ Drawn0 w w' := by
  have hu28 := Try.underlying28
  have HR0 := Aside0.mk hr0
  have HC0 := Aside0.mk hc0
  clear hr0 hc0
  have HR1 := Aside0.mk hr1
  have HC1 := Aside0.mk hc1
  clear hr1 hc1
  have H : (if (l0.length : Int) = (l1.length : Int) then (api_Midi_27.l0 k l0 l1 (l0.length : Int) 0) else (some false)) = some r := h
  clear h
  by_cases c3 : (l0.length : Int) = (l1.length : Int)
  rotate_left
  · rw [if_neg c3] at H
    have c3b0 : ((l0.length : Int) == (l1.length : Int)) = false := beq_eq_false_iff_ne.mpr c3
    have c3b1 : ((l0.length : Int) != (l1.length : Int)) = true := bne_iff_ne.mpr c3
    have c3b2 : (l0.length == l1.length) = false := by first | simpa using c3 | (simp at c3 ⊢; omega)
    obtain rfl := Option.some.inj H
    go_enter Try.func27, Try.ntmps27
    go_wp2
    repeat (go_quiet (fail); try go_wp2)
    go_ret
    exact ⟨by first | rfl | (simp; done) | (simp [*]; done), by repeat (first | exact Drawn0.refl _ | apply Drawn0.step)⟩
  rw [if_pos c3] at H
  have c3b0 : ((l0.length : Int) == (l1.length : Int)) = true := beq_iff_eq.mpr c3
  have c3b1 : ((l0.length : Int) != (l1.length : Int)) = false := bne_eq_false_iff_eq.mpr c3
  have c3b2 : (l0.length == l1.length) = true := by first | simpa using c3 | (simp at c3 ⊢; omega)
  clear c3
  have H' := Aside0.mk H
  clear H
  go_enter Try.func27, Try.ntmps27
  go_wp2
  repeat (go_quiet (fail); try go_wp2)
  go_loopg [13] k (fun kq v13 w' => ∃ (x13_1 : Int), v13 = .int .i64 x13_1 ∧ Aside0 (api_Midi_27.l0 kq l0 l1 (l0.length : Int) x13_1 = some r) ∧ Aside0 (kq ≤ k) ∧ Drawn0 w w')
  case atStart => exact ⟨(0), (by first | rfl | (simp; done) | (simp [*]; done)), H', ⟨Nat.le_refl _⟩, by repeat (first | exact Drawn0.refl _ | apply Drawn0.step)⟩
  case round =>
    clear H'
    try clear c1
    try clear c2
    try clear p2
    try clear c3
    try clear c3b0
    try clear c3b1
    try clear c3b2
    obtain ⟨x13_1, rfl, HA, HK1, ⟨m1, rfl⟩⟩ := hrel
    cases gk with
    | zero => exact absurd HA.out (by simp [api_Midi_27.l0])
    | succ k1 =>
      have H := HA.out
      clear HA
      simp only [api_Midi_27.l0] at H
      by_cases c4 : x13_1 < (l0.length : Int)
      rotate_left
      · rw [if_neg c4] at H
        have c4b0 : decide (x13_1 < (l0.length : Int)) = false := decide_eq_false c4
        clear c4
        obtain rfl := Option.some.inj H
        go_wp2
        repeat (go_quiet (fail); try go_wp2)
        go_ret
        exact ⟨by first | rfl | (simp; done) | (simp [*]; done), by repeat (first | exact Drawn0.refl _ | apply Drawn0.step)⟩
      rw [if_pos c4] at H
      have c4b0 : decide (x13_1 < (l0.length : Int)) = true := decide_eq_true c4
      clear c4
      by_cases c5 : 0 ≤ x13_1
      rotate_left
      · rw [if_neg c5] at H
        exact absurd H (by simp)
      rw [if_pos c5] at H
      have c5b0 : decide (0 ≤ x13_1) = true := decide_eq_true c5
      clear c5
      by_cases c6 : x13_1 < (l0.length : Int)
      rotate_left
      · rw [if_neg c6] at H
        exact absurd H (by simp)
      rw [if_pos c6] at H
      have c6b0 : decide (x13_1 < (l0.length : Int)) = true := decide_eq_true c6
      clear c6
      by_cases c7 : x13_1 < (l1.length : Int)
      rotate_left
      · rw [if_neg c7] at H
        exact absurd H (by simp)
      rw [if_pos c7] at H
      have c7b0 : decide (x13_1 < (l1.length : Int)) = true := decide_eq_true c7
      clear c7
      by_cases c8 : (!(((rd_T28 l0 x13_1).f0) == ((rd_T28 l1 x13_1).f0)) || (!(((rd_T28 l0 x13_1).f1) == ((rd_T28 l1 x13_1).f1)) || (!(((rd_T28 l0 x13_1).f2) == ((rd_T28 l1 x13_1).f2)) || (!(((rd_T28 l0 x13_1).f3) == ((rd_T28 l1 x13_1).f3)) || (!(((rd_T28 l0 x13_1).f4) == ((rd_T28 l1 x13_1).f4)) || (!((((rd_T28 l0 x13_1).f5).toList) == (((rd_T28 l1 x13_1).f5).toList)))))))) = true
      · rw [if_pos c8] at H
        have c8b0 : (!(((rd_T28 l0 x13_1).f0) == ((rd_T28 l1 x13_1).f0)) || (!(((rd_T28 l0 x13_1).f1) == ((rd_T28 l1 x13_1).f1)) || (!(((rd_T28 l0 x13_1).f2) == ((rd_T28 l1 x13_1).f2)) || (!(((rd_T28 l0 x13_1).f3) == ((rd_T28 l1 x13_1).f3)) || (!(((rd_T28 l0 x13_1).f4) == ((rd_T28 l1 x13_1).f4)) || (!((((rd_T28 l0 x13_1).f5).toList) == (((rd_T28 l1 x13_1).f5).toList)))))))) = true := c8
        clear c8
        obtain rfl := Option.some.inj H
        have p101 : 0 ≤ (x13_1 : Int) := of_decide_eq_true (by first | (with_reducible assumption) | assumption)
        have q101 : x13_1 < (l0.length : Int) := of_decide_eq_true (by first | (with_reducible assumption) | assumption)
        obtain ⟨ad101, e101, hx101_0, hx101_1, hx101_2, hx101_3, hx101_4, hx101_5⟩ := at_T28 HR0.out x13_1 p101 q101
        cases e101
        replace p101 := eq_true p101
        replace q101 := eq_true q101
        have p102 : 0 ≤ (x13_1 : Int) := of_decide_eq_true (by first | (with_reducible assumption) | assumption)
        have q102 : x13_1 < (l1.length : Int) := of_decide_eq_true (by first | (with_reducible assumption) | assumption)
        obtain ⟨ad102, e102, hx102_0, hx102_1, hx102_2, hx102_3, hx102_4, hx102_5⟩ := at_T28 HR1.out x13_1 p102 q102
        cases e102
        replace p102 := eq_true p102
        replace q102 := eq_true q102
        go_wp2
        repeat (go_quiet (fail); try go_wp2)
        go_ret
        exact ⟨by first | rfl | (simp; done) | (simp [*]; done), by repeat (first | exact Drawn0.refl _ | apply Drawn0.step)⟩
      rw [if_neg c8] at H
      have c8b0 : (!(((rd_T28 l0 x13_1).f0) == ((rd_T28 l1 x13_1).f0)) || (!(((rd_T28 l0 x13_1).f1) == ((rd_T28 l1 x13_1).f1)) || (!(((rd_T28 l0 x13_1).f2) == ((rd_T28 l1 x13_1).f2)) || (!(((rd_T28 l0 x13_1).f3) == ((rd_T28 l1 x13_1).f3)) || (!(((rd_T28 l0 x13_1).f4) == ((rd_T28 l1 x13_1).f4)) || (!((((rd_T28 l0 x13_1).f5).toList) == (((rd_T28 l1 x13_1).f5).toList)))))))) = false := by simpa using c8
      clear c8
      have H' := Aside0.mk H
      clear H
      have p101 : 0 ≤ (x13_1 : Int) := of_decide_eq_true (by first | (with_reducible assumption) | assumption)
      have q101 : x13_1 < (l0.length : Int) := of_decide_eq_true (by first | (with_reducible assumption) | assumption)
      obtain ⟨ad101, e101, hx101_0, hx101_1, hx101_2, hx101_3, hx101_4, hx101_5⟩ := at_T28 HR0.out x13_1 p101 q101
      cases e101
      replace p101 := eq_true p101
      replace q101 := eq_true q101
      have p102 : 0 ≤ (x13_1 : Int) := of_decide_eq_true (by first | (with_reducible assumption) | assumption)
      have q102 : x13_1 < (l1.length : Int) := of_decide_eq_true (by first | (with_reducible assumption) | assumption)
      obtain ⟨ad102, e102, hx102_0, hx102_1, hx102_2, hx102_3, hx102_4, hx102_5⟩ := at_T28 HR1.out x13_1 p102 q102
      cases e102
      replace p102 := eq_true p102
      replace q102 := eq_true q102
      go_wp2
      repeat (go_quiet (fail); try go_wp2)
      go_roundg k1
      case measure => have := HK1.out; omega
      case rel => exact ⟨(wrap64 (x13_1 + 1)), (by first | rfl | (simp; done) | (simp [*]; done)), H', ⟨by have := HK1.out; omega⟩, by repeat (first | exact Drawn0.refl _ | apply Drawn0.step)⟩
end Go.Proofs.Ytdmnknhlibaaoaa.M
namespace Go.Proofs.Ytdmnknhlibaaoaa.M
open Go.RowKit Go.Proofs.YtdmnknhlibaaoaaW.PrintWords Go.Proofs.YtdmnknhlibaaoaaW.PrintLast Go.Proofs.YtdmnknhlibaaoaaW.PrintMore
attribute [local go_sem] max2_int min2_int max_two min_two max_three min_three max_four min_four
set_option linter.unusedVariables false
set_option linter.unusedSimpArgs false
def api_Midi_26.l0 : Nat → List (List (S28)) → List (List (S28)) → Int → Int → Option (Bool)
  | 0, _, _, _, _ => none
  | k + 1, x1, x15, x16, x17 => if x17 < x16 then (if 0 ≤ x17 then (if x17 < (x15.length : Int) then (if x17 < (x1.length : Int) then ((api_Midi_27.f k (rd_L3 x15 x17) (rd_L3 x1 x17)).bind fun t103 => (if t103 = true then (api_Midi_26.l0 k x1 x15 x16 (wrap64 (x17 + 1))) else (some false))) else (none)) else (none)) else (none)) else (some true)
def api_Midi_26.f (k : Nat) (l0 : List (List (S28))) (l1 : List (List (S28))) : Option (Bool) := if (l0.length : Int) = (l1.length : Int) then (api_Midi_26.l0 k l1 l0 (l0.length : Int) 0) else (some false)
theorem api_Midi_26.mono_l : ∀ k, (∀ y0 y1 y2 y3, LeO (api_Midi_26.l0 k y0 y1 y2 y3) (api_Midi_26.l0 (k + 1) y0 y1 y2 y3))
  | 0 => fun _ _ _ _ r h => by simp [api_Midi_26.l0] at h
  | k + 1 => by
    have ih0 := api_Midi_26.mono_l k
    · intro y0 y1 y2 y3
      unfold api_Midi_26.l0
      repeat' first
      | (with_reducible exact ih0 _ _ _ _)
      | (with_reducible exact api_Midi_27.mono _ _ _)
      | (with_reducible exact LeO.refl _)
      | (with_reducible exact LeO.none _)
      | (with_reducible refine LeO.ite ?_ ?_)
      | (with_reducible refine LeO.bind ?_ (fun _ => ?_))
      | exact ih0 _ _ _ _
      | exact api_Midi_27.mono _ _ _
      | exact LeO.none _
      | refine LeO.ite ?_ ?_
      | refine LeO.bind ?_ (fun _ => ?_)
theorem api_Midi_26.mono : ∀ a0 a1 k, LeO (api_Midi_26.f k a0 a1) (api_Midi_26.f (k + 1) a0 a1) := by
  intro a0 a1 k
  have ih0 := api_Midi_26.mono_l k
  unfold api_Midi_26.f
  repeat' first
      | (with_reducible exact ih0 _ _ _ _)
      | (with_reducible exact api_Midi_27.mono _ _ _)
      | (with_reducible exact LeO.refl _)
      | (with_reducible exact LeO.none _)
      | (with_reducible refine LeO.ite ?_ ?_)
      | (with_reducible refine LeO.bind ?_ (fun _ => ?_))
      | exact ih0 _ _ _ _
      | exact api_Midi_27.mono _ _ _
      | exact LeO.none _
      | refine LeO.ite ?_ ?_
      | refine LeO.bind ?_ (fun _ => ?_)
set_option maxHeartbeats 8000000 in
set_option maxRecDepth 100000 in
theorem api_Midi_26.calls (k : Nat) (A0 : Option Addr) (c0 : Nat) (l0 : List (List (S28))) (A1 : Option Addr) (c1 : Nat) (l1 : List (List (S28))) (r : Bool) (w : World) (hr0 : Kd.C (Kd.slice 28 k28) w A0 l0.length l0) (hc0 : l0.length ≤ c0) (hr1 : Kd.C (Kd.slice 28 k28) w A1 l1.length l1) (hc1 : l1.length ≤ c1) (h : api_Midi_26.f k l0 l1 = some r) :
    Calls Try.prog 26 #[.slice A0 l0.length c0, .slice A1 l1.length c1, .func (.func 27) #[] #[]] w fun e w' => e = .returned (.bool r) ∧ Drawn0 w w' := by
  have HR0 := Aside0.mk hr0
  have HC0 := Aside0.mk hc0
  clear hr0 hc0
  have HR1 := Aside0.mk hr1
  have HC1 := Aside0.mk hc1
  clear hr1 hc1
  have H : (if (l0.length : Int) = (l1.length : Int) then (api_Midi_26.l0 k l1 l0 (l0.length : Int) 0) else (some false)) = some r := h
  clear h
  by_cases c3 : (l0.length : Int) = (l1.length : Int)
  rotate_left
  · rw [if_neg c3] at H
    have c3b0 : ((l0.length : Int) == (l1.length : Int)) = false := beq_eq_false_iff_ne.mpr c3
    have c3b1 : ((l0.length : Int) != (l1.length : Int)) = true := bne_iff_ne.mpr c3
    have c3b2 : (l0.length == l1.length) = false := by first | simpa using c3 | (simp at c3 ⊢; omega)
    obtain rfl := Option.some.inj H
    go_enter Try.func26, Try.ntmps26
    go_wp2
    go_ret
    exact ⟨by first | rfl | (simp; done) | (simp [*]; done), by repeat (first | exact Drawn0.refl _ | apply Drawn0.step)⟩
  rw [if_pos c3] at H
  have c3b0 : ((l0.length : Int) == (l1.length : Int)) = true := beq_iff_eq.mpr c3
  have c3b1 : ((l0.length : Int) != (l1.length : Int)) = false := bne_eq_false_iff_eq.mpr c3
  have c3b2 : (l0.length == l1.length) = true := by first | simpa using c3 | (simp at c3 ⊢; omega)
  clear c3
  have H' := Aside0.mk H
  clear H
  go_enter Try.func26, Try.ntmps26
  go_wp2
  go_loopg [17] k (fun kq v17 w' => ∃ (x17_1 : Int), v17 = .int .i64 x17_1 ∧ Aside0 (api_Midi_26.l0 kq l1 l0 (l0.length : Int) x17_1 = some r) ∧ Aside0 (kq ≤ k) ∧ Drawn0 w w')
  case atStart => exact ⟨(0), (by first | rfl | (simp; done) | (simp [*]; done)), H', ⟨Nat.le_refl _⟩, by repeat (first | exact Drawn0.refl _ | apply Drawn0.step)⟩
  case round =>
    clear H'
    try clear c1
    try clear c2
    try clear p2
    try clear c3
    try clear c3b0
    try clear c3b1
    try clear c3b2
    obtain ⟨x17_1, rfl, HA, HK1, ⟨m1, rfl⟩⟩ := hrel
    cases gk with
    | zero => exact absurd HA.out (by simp [api_Midi_26.l0])
    | succ k1 =>
      have H := HA.out
      clear HA
      simp only [api_Midi_26.l0] at H
      by_cases c4 : x17_1 < (l0.length : Int)
      rotate_left
      · rw [if_neg c4] at H
        have c4b0 : decide (x17_1 < (l0.length : Int)) = false := decide_eq_false c4
        clear c4
        obtain rfl := Option.some.inj H
        go_wp2
        go_ret
        exact ⟨by first | rfl | (simp; done) | (simp [*]; done), by repeat (first | exact Drawn0.refl _ | apply Drawn0.step)⟩
      rw [if_pos c4] at H
      have c4b0 : decide (x17_1 < (l0.length : Int)) = true := decide_eq_true c4
      clear c4
      by_cases c5 : 0 ≤ x17_1
      rotate_left
      · rw [if_neg c5] at H
        exact absurd H (by simp)
      rw [if_pos c5] at H
      have c5b0 : decide (0 ≤ x17_1) = true := decide_eq_true c5
      clear c5
      by_cases c6 : x17_1 < (l0.length : Int)
      rotate_left
      · rw [if_neg c6] at H
        exact absurd H (by simp)
      rw [if_pos c6] at H
      have c6b0 : decide (x17_1 < (l0.length : Int)) = true := decide_eq_true c6
      clear c6
      by_cases c7 : x17_1 < (l1.length : Int)
      rotate_left
      · rw [if_neg c7] at H
        exact absurd H (by simp)
      rw [if_pos c7] at H
      have c7b0 : decide (x17_1 < (l1.length : Int)) = true := decide_eq_true c7
      clear c7
      replace H := Option.bind_eq_some_iff.mp H
      obtain ⟨t103, A80, H⟩ := H
      replace H : (if t103 = true then (api_Midi_26.l0 k1 l1 l0 (l0.length : Int) (wrap64 (x17_1 + 1))) else (some false)) = some r := H
      have A8 := Aside0.mk A80
      clear A80
      by_cases c9 : t103 = true
      rotate_left
      · replace c9 := Bool.eq_false_iff.mpr c9
        subst c9
        have H1 : (some false) = some r := by rw [if_neg (show ¬ (false = true) by decide)] at H; exact H
        clear H
        have H := H1
        clear H1
        obtain rfl := Option.some.inj H
        have p101 : 0 ≤ (x17_1 : Int) := of_decide_eq_true (by first | (with_reducible assumption) | assumption)
        have q101 : x17_1 < (l0.length : Int) := of_decide_eq_true (by first | (with_reducible assumption) | assumption)
        obtain ⟨ad101, A101_0, c101_0, e101, hx101_0, hl101_0, hi101_0⟩ := at_L3 HR0.out x17_1 p101 q101
        cases e101
        have HR101_0 := Aside0.mk hi101_0
        have HC101_0 := Aside0.mk hl101_0
        clear hi101_0 hl101_0
        replace p101 := eq_true p101
        replace q101 := eq_true q101
        have p102 : 0 ≤ (x17_1 : Int) := of_decide_eq_true (by first | (with_reducible assumption) | assumption)
        have q102 : x17_1 < (l1.length : Int) := of_decide_eq_true (by first | (with_reducible assumption) | assumption)
        obtain ⟨ad102, A102_0, c102_0, e102, hx102_0, hl102_0, hi102_0⟩ := at_L3 HR1.out x17_1 p102 q102
        cases e102
        have HR102_0 := Aside0.mk hi102_0
        have HC102_0 := Aside0.mk hl102_0
        clear hi102_0 hl102_0
        replace p102 := eq_true p102
        replace q102 := eq_true q102
        go_wp2_with (first | (refine goesV_ (some 29) rfl rfl Try.func27 (by kernel_rfl) rfl #[.slice A101_0 (rd_L3 l0 x17_1).length c101_0, .slice A102_0 (rd_L3 l1 x17_1).length c102_0] rfl (by (try simp only [List.map_toArray, List.map_cons, List.map_nil]); first | done | rfl | (simp only [List.length_drop, List.length_take]; rfl)) ?_; (with_reducible refine (api_Midi_27.calls k1 _ _ (rd_L3 l0 x17_1) _ _ (rd_L3 l1 x17_1) false _ ?side1 ?side2 ?side3 ?side4 A8.out).mono ?_); (case side1 => repeat (first | exact HR101_0.out | (with_reducible refine Kd.C_alloc ?_ _) | (with_reducible refine Kd.C_drewN ?_ _) | (with_reducible refine Kd.C_drew ?_))); (case side2 => exact HC101_0.out); (case side3 => repeat (first | exact HR102_0.out | (with_reducible refine Kd.C_alloc ?_ _) | (with_reducible refine Kd.C_drewN ?_ _) | (with_reducible refine Kd.C_drew ?_))); (case side4 => exact HC102_0.out); rintro e w' ⟨rfl, ⟨nd, rfl⟩⟩; refine ⟨_, rfl, ?_⟩))
        go_ret
        exact ⟨by first | rfl | (simp; done) | (simp [*]; done), by repeat (first | exact Drawn0.refl _ | apply Drawn0.step)⟩
      subst c9
      have H1 : (api_Midi_26.l0 k1 l1 l0 (l0.length : Int) (wrap64 (x17_1 + 1))) = some r := by rw [if_pos rfl] at H; exact H
      clear H
      have H := H1
      clear H1
      have H' := Aside0.mk H
      clear H
      have p101 : 0 ≤ (x17_1 : Int) := of_decide_eq_true (by first | (with_reducible assumption) | assumption)
      have q101 : x17_1 < (l0.length : Int) := of_decide_eq_true (by first | (with_reducible assumption) | assumption)
      obtain ⟨ad101, A101_0, c101_0, e101, hx101_0, hl101_0, hi101_0⟩ := at_L3 HR0.out x17_1 p101 q101
      cases e101
      have HR101_0 := Aside0.mk hi101_0
      have HC101_0 := Aside0.mk hl101_0
      clear hi101_0 hl101_0
      replace p101 := eq_true p101
      replace q101 := eq_true q101
      have p102 : 0 ≤ (x17_1 : Int) := of_decide_eq_true (by first | (with_reducible assumption) | assumption)
      have q102 : x17_1 < (l1.length : Int) := of_decide_eq_true (by first | (with_reducible assumption) | assumption)
      obtain ⟨ad102, A102_0, c102_0, e102, hx102_0, hl102_0, hi102_0⟩ := at_L3 HR1.out x17_1 p102 q102
      cases e102
      have HR102_0 := Aside0.mk hi102_0
      have HC102_0 := Aside0.mk hl102_0
      clear hi102_0 hl102_0
      replace p102 := eq_true p102
      replace q102 := eq_true q102
      go_wp2_with (first | (refine goesV_ (some 29) rfl rfl Try.func27 (by kernel_rfl) rfl #[.slice A101_0 (rd_L3 l0 x17_1).length c101_0, .slice A102_0 (rd_L3 l1 x17_1).length c102_0] rfl (by (try simp only [List.map_toArray, List.map_cons, List.map_nil]); first | done | rfl | (simp only [List.length_drop, List.length_take]; rfl)) ?_; (with_reducible refine (api_Midi_27.calls k1 _ _ (rd_L3 l0 x17_1) _ _ (rd_L3 l1 x17_1) true _ ?side1 ?side2 ?side3 ?side4 A8.out).mono ?_); (case side1 => repeat (first | exact HR101_0.out | (with_reducible refine Kd.C_alloc ?_ _) | (with_reducible refine Kd.C_drewN ?_ _) | (with_reducible refine Kd.C_drew ?_))); (case side2 => exact HC101_0.out); (case side3 => repeat (first | exact HR102_0.out | (with_reducible refine Kd.C_alloc ?_ _) | (with_reducible refine Kd.C_drewN ?_ _) | (with_reducible refine Kd.C_drew ?_))); (case side4 => exact HC102_0.out); rintro e w' ⟨rfl, ⟨nd, rfl⟩⟩; refine ⟨_, rfl, ?_⟩))
      go_roundg k1
      case measure => have := HK1.out; omega
      case rel => exact ⟨(wrap64 (x17_1 + 1)), (by first | rfl | (simp; done) | (simp [*]; done)), H', ⟨by have := HK1.out; omega⟩, by repeat (first | exact Drawn0.refl _ | apply Drawn0.step)⟩
end Go.Proofs.Ytdmnknhlibaaoaa.M
namespace Go.Proofs.Ytdmnknhlibaaoaa.M
open Go.RowKit Go.Proofs.YtdmnknhlibaaoaaW.PrintWords Go.Proofs.YtdmnknhlibaaoaaW.PrintLast Go.Proofs.YtdmnknhlibaaoaaW.PrintMore
attribute [local go_sem] max2_int min2_int max_two min_two max_three min_three max_four min_four
set_option linter.unusedVariables false
set_option linter.unusedSimpArgs false
def smf_Same.f (k : Nat) (a0_0 : Int) (a0_1 : Int) (l0_2 : List (List (S28))) (a1_0 : Int) (a1_1 : Int) (l1_2 : List (List (S28))) : Option (Bool) := if a0_0 = a1_0 then (if a0_1 = a1_1 then ((api_Midi_26.f k l0_2 l1_2).bind fun t103 => (some t103)) else (some false)) else (some false)
theorem smf_Same.mono : ∀ a0 a1 a2 a3 a4 a5 k, LeO (smf_Same.f k a0 a1 a2 a3 a4 a5) (smf_Same.f (k + 1) a0 a1 a2 a3 a4 a5) := by
  intro a0 a1 a2 a3 a4 a5 k
  unfold smf_Same.f
  repeat' first
      | (with_reducible exact api_Midi_26.mono _ _ _)
      | (with_reducible exact LeO.refl _)
      | (with_reducible exact LeO.none _)
      | (with_reducible refine LeO.ite ?_ ?_)
      | (with_reducible refine LeO.bind ?_ (fun _ => ?_))
      | exact api_Midi_26.mono _ _ _
      | exact LeO.none _
      | refine LeO.ite ?_ ?_
      | refine LeO.bind ?_ (fun _ => ?_)
set_option maxHeartbeats 8000000 in
set_option maxRecDepth 100000 in
theorem smf_Same.calls (k : Nat) (a0_0 : Int) (a0_1 : Int) (A0_2 : Option Addr) (c0_2 : Nat) (l0_2 : List (List (S28))) (a1_0 : Int) (a1_1 : Int) (A1_2 : Option Addr) (c1_2 : Nat) (l1_2 : List (List (S28))) (r : Bool) (w : World) (hr0_2 : Kd.C (Kd.slice 28 k28) w A0_2 l0_2.length l0_2) (hc0_2 : l0_2.length ≤ c0_2) (hr1_2 : Kd.C (Kd.slice 28 k28) w A1_2 l1_2.length l1_2) (hc1_2 : l1_2.length ≤ c1_2) (h : smf_Same.f k a0_0 a0_1 l0_2 a1_0 a1_1 l1_2 = some r) :
    Calls Try.prog 14 #[.agg #[.int .i64 a0_0, .int .i64 a0_1, .slice A0_2 l0_2.length c0_2], .agg #[.int .i64 a1_0, .int .i64 a1_1, .slice A1_2 l1_2.length c1_2]] w fun e w' => e = .returned (.bool r) ∧ Below w.heap.size w w' := by
  have hu24 := Try.underlying24
  have HR0_2 := Aside0.mk hr0_2
  have HC0_2 := Aside0.mk hc0_2
  clear hr0_2 hc0_2
  have HR1_2 := Aside0.mk hr1_2
  have HC1_2 := Aside0.mk hc1_2
  clear hr1_2 hc1_2
  have HB := Aside0.mk (Below.refl w.heap.size w)
  have H : (if a0_0 = a1_0 then (if a0_1 = a1_1 then ((api_Midi_26.f k l0_2 l1_2).bind fun t103 => (some t103)) else (some false)) else (some false)) = some r := h
  clear h
  by_cases c3 : a0_0 = a1_0
  rotate_left
  · rw [if_neg c3] at H
    have c3b0 : (a0_0 == a1_0) = false := beq_eq_false_iff_ne.mpr c3
    have c3b1 : (a0_0 != a1_0) = true := bne_iff_ne.mpr c3
    obtain rfl := Option.some.inj H
    go_enter Try.func14, Try.ntmps14
    go_wp2_with (first | ((with_reducible refine gate_dst (N := 2) rfl ?_); refine box_event ?hg (N := 2) ?hd (cs := #[.int .i64 a0_0, .int .i64 a0_1, .slice A0_2 l0_2.length c0_2]) (t := 24) ?hr ?_; (case hd => rfl); (case hg => rfl); (case hr => first | (go_simp; done) | (go_simp; rfl)); intro gb101 hg w16 hbox hb; have BK101 := Aside0.mk (hbox); have GW101 := Aside0.mk ((by rw [hg]; exact (below_size (qB HB.out)) : w.heap.size ≤ gb101)); have GE101 := Aside0.mk ((by rw [hg]; exact (below_size (qB HB.out)) : w.heap.size ≤ gb101)); replace HB := Aside0.mk (below_step (qB HB.out) hb); clear hb hbox hg) | ((with_reducible refine gate_dst (N := 3) rfl ?_); refine box_event ?hg (N := 3) ?hd (cs := #[.int .i64 a1_0, .int .i64 a1_1, .slice A1_2 l1_2.length c1_2]) (t := 24) ?hr ?_; (case hd => rfl); (case hg => rfl); (case hr => first | (go_simp; done) | (go_simp; rfl)); intro gb102 hg w17 hbox hb; have BK102 := Aside0.mk (hbox); have GW102 := Aside0.mk ((by rw [hg]; exact (below_size (qS1 GE101 HB.out)) : w.heap.size ≤ gb102)); have GE102 := Aside0.mk ((by rw [hg]; exact (below_size (qS1 GE101 HB.out)) : w.heap.size ≤ gb102)); replace HB := Aside0.mk (below_step (qS1 GE101 HB.out) hb); have NB101_102 := Aside0.mk ((by rw [hg]; exact Nat.ne_of_lt (blk_lt (bq BK101.out)) : gb101 ≠ gb102)); have NB102_101 := Aside0.mk ((by rw [hg]; exact Nat.ne_of_gt (blk_lt (bq BK101.out)) : gb102 ≠ gb101)); replace BK101 := Aside0.mk (blk_below (bq BK101.out) hb); clear hb hbox hg; have hnb18 := NB101_102.out; have hnc18 := NB102_101.out; obtain ⟨hcz19_0, hcz19_1, hcz19_2, hfz19_0, hfz19_1, hfz19_2⟩ := blk3 BK101.out; obtain ⟨hcz20_0, hcz20_1, hcz20_2, hfz20_0, hfz20_1, hfz20_2⟩ := blk3 BK102.out))
    go_ret
    exact ⟨by first | rfl | (simp [errW_none, errW_some] <;> rfl) | (simp [*, errW_none, errW_some] <;> rfl), qS2 GE101 GE102 HB.out⟩
  rw [if_pos c3] at H
  have c3b0 : (a0_0 == a1_0) = true := beq_iff_eq.mpr c3
  have c3b1 : (a0_0 != a1_0) = false := bne_eq_false_iff_eq.mpr c3
  clear c3
  by_cases c4 : a0_1 = a1_1
  rotate_left
  · rw [if_neg c4] at H
    have c4b0 : (a0_1 == a1_1) = false := beq_eq_false_iff_ne.mpr c4
    have c4b1 : (a0_1 != a1_1) = true := bne_iff_ne.mpr c4
    obtain rfl := Option.some.inj H
    go_enter Try.func14, Try.ntmps14
    go_wp2_with (first | ((with_reducible refine gate_dst (N := 2) rfl ?_); refine box_event ?hg (N := 2) ?hd (cs := #[.int .i64 a0_0, .int .i64 a0_1, .slice A0_2 l0_2.length c0_2]) (t := 24) ?hr ?_; (case hd => rfl); (case hg => rfl); (case hr => first | (go_simp; done) | (go_simp; rfl)); intro gb101 hg w11 hbox hb; have BK101 := Aside0.mk (hbox); have GW101 := Aside0.mk ((by rw [hg]; exact (below_size (qB HB.out)) : w.heap.size ≤ gb101)); have GE101 := Aside0.mk ((by rw [hg]; exact (below_size (qB HB.out)) : w.heap.size ≤ gb101)); replace HB := Aside0.mk (below_step (qB HB.out) hb); clear hb hbox hg) | ((with_reducible refine gate_dst (N := 3) rfl ?_); refine box_event ?hg (N := 3) ?hd (cs := #[.int .i64 a1_0, .int .i64 a1_1, .slice A1_2 l1_2.length c1_2]) (t := 24) ?hr ?_; (case hd => rfl); (case hg => rfl); (case hr => first | (go_simp; done) | (go_simp; rfl)); intro gb102 hg w12 hbox hb; have BK102 := Aside0.mk (hbox); have GW102 := Aside0.mk ((by rw [hg]; exact (below_size (qS1 GE101 HB.out)) : w.heap.size ≤ gb102)); have GE102 := Aside0.mk ((by rw [hg]; exact (below_size (qS1 GE101 HB.out)) : w.heap.size ≤ gb102)); replace HB := Aside0.mk (below_step (qS1 GE101 HB.out) hb); have NB101_102 := Aside0.mk ((by rw [hg]; exact Nat.ne_of_lt (blk_lt (bq BK101.out)) : gb101 ≠ gb102)); have NB102_101 := Aside0.mk ((by rw [hg]; exact Nat.ne_of_gt (blk_lt (bq BK101.out)) : gb102 ≠ gb101)); replace BK101 := Aside0.mk (blk_below (bq BK101.out) hb); clear hb hbox hg; have hnb13 := NB101_102.out; have hnc13 := NB102_101.out; obtain ⟨hcz14_0, hcz14_1, hcz14_2, hfz14_0, hfz14_1, hfz14_2⟩ := blk3 BK101.out; obtain ⟨hcz15_0, hcz15_1, hcz15_2, hfz15_0, hfz15_1, hfz15_2⟩ := blk3 BK102.out))
    go_ret
    exact ⟨by first | rfl | (simp [errW_none, errW_some] <;> rfl) | (simp [*, errW_none, errW_some] <;> rfl), qS2 GE101 GE102 HB.out⟩
  rw [if_pos c4] at H
  have c4b0 : (a0_1 == a1_1) = true := beq_iff_eq.mpr c4
  have c4b1 : (a0_1 != a1_1) = false := bne_eq_false_iff_eq.mpr c4
  clear c4
  replace H := Option.bind_eq_some_iff.mp H
  obtain ⟨t103, A50, H⟩ := H
  replace H : (some t103) = some r := H
  have A5 := Aside0.mk A50
  clear A50
  obtain rfl := Option.some.inj H
  go_enter Try.func14, Try.ntmps14
  go_wp2_with (first | ((with_reducible refine gate_dst (N := 2) rfl ?_); refine box_event ?hg (N := 2) ?hd (cs := #[.int .i64 a0_0, .int .i64 a0_1, .slice A0_2 l0_2.length c0_2]) (t := 24) ?hr ?_; (case hd => rfl); (case hg => rfl); (case hr => first | (go_simp; done) | (go_simp; rfl)); intro gb101 hg w6 hbox hb; have BK101 := Aside0.mk (hbox); have GW101 := Aside0.mk ((by rw [hg]; exact (below_size (qB HB.out)) : w.heap.size ≤ gb101)); have GE101 := Aside0.mk ((by rw [hg]; exact (below_size (qB HB.out)) : w.heap.size ≤ gb101)); replace HB := Aside0.mk (below_step (qB HB.out) hb); clear hb hbox hg) | ((with_reducible refine gate_dst (N := 3) rfl ?_); refine box_event ?hg (N := 3) ?hd (cs := #[.int .i64 a1_0, .int .i64 a1_1, .slice A1_2 l1_2.length c1_2]) (t := 24) ?hr ?_; (case hd => rfl); (case hg => rfl); (case hr => first | (go_simp; done) | (go_simp; rfl)); intro gb102 hg w7 hbox hb; have BK102 := Aside0.mk (hbox); have GW102 := Aside0.mk ((by rw [hg]; exact (below_size (qS1 GE101 HB.out)) : w.heap.size ≤ gb102)); have GE102 := Aside0.mk ((by rw [hg]; exact (below_size (qS1 GE101 HB.out)) : w.heap.size ≤ gb102)); replace HB := Aside0.mk (below_step (qS1 GE101 HB.out) hb); have NB101_102 := Aside0.mk ((by rw [hg]; exact Nat.ne_of_lt (blk_lt (bq BK101.out)) : gb101 ≠ gb102)); have NB102_101 := Aside0.mk ((by rw [hg]; exact Nat.ne_of_gt (blk_lt (bq BK101.out)) : gb102 ≠ gb101)); replace BK101 := Aside0.mk (blk_below (bq BK101.out) hb); clear hb hbox hg; have hnb8 := NB101_102.out; have hnc8 := NB102_101.out; obtain ⟨hcz9_0, hcz9_1, hcz9_2, hfz9_0, hfz9_1, hfz9_2⟩ := blk3 BK101.out; obtain ⟨hcz10_0, hcz10_1, hcz10_2, hfz10_0, hfz10_1, hfz10_2⟩ := blk3 BK102.out) | (go_at_call 26; (with_reducible refine (api_Midi_26.calls k _ _ l0_2 _ _ l1_2 t103 _ ?side1 ?side2 ?side3 ?side4 A5.out).mono ?_); (case side1 => repeat (first | exact (Kd.C_below HR0_2.out HB.out) | (with_reducible refine Kd.C_alloc ?_ _) | (with_reducible refine Kd.C_drewN ?_ _) | (with_reducible refine Kd.C_drew ?_))); (case side2 => exact HC0_2.out); (case side3 => repeat (first | exact (Kd.C_below HR1_2.out HB.out) | (with_reducible refine Kd.C_alloc ?_ _) | (with_reducible refine Kd.C_drewN ?_ _) | (with_reducible refine Kd.C_drew ?_))); (case side4 => exact HC1_2.out); rintro e w' ⟨rfl, ⟨nd, rfl⟩⟩))
  go_ret
  exact ⟨by first | rfl | (simp [errW_none, errW_some] <;> rfl) | (simp [*, errW_none, errW_some] <;> rfl), qS2 GE101 GE102 HB.out⟩
end Go.Proofs.Ytdmnknhlibaaoaa.M
namespace Go.Proofs.Ytdmnknhlibaaoaa.Z
open Go.RowKit Go.Proofs.YtdmnknhlibaaoaaW.PrintWords Go.Proofs.YtdmnknhlibaaoaaW.PrintLast Go.Proofs.Ytdmnknhlibaaoaa.M
set_option linter.unusedVariables false
theorem Ev.yes {α : Type} {c : Prop} [Decidable c] {a b : Nat → Option α} {r : α} (h : c) (k : Ev a r) : Ev (fun n => if c then a n else b n) r := by
  obtain ⟨K, hK⟩ := k
  exact ⟨K, fun n hn => by show (if c then a n else b n) = some r; rw [if_pos h]; exact hK n hn⟩
theorem Ev.no {α : Type} {c : Prop} [Decidable c] {a b : Nat → Option α} {r : α} (h : ¬ c) (k : Ev b r) : Ev (fun n => if c then a n else b n) r := by
  obtain ⟨K, hK⟩ := k
  exact ⟨K, fun n hn => by show (if c then a n else b n) = some r; rw [if_neg h]; exact hK n hn⟩
theorem Ev.eq {α : Type} {x : Option α} {r : α} (h : x = some r) : Ev (fun _ => x) r := ⟨0, fun _ _ => h⟩
theorem Ev.at {α : Type} {g : Nat → Option α} {r : α} (K : Nat) (h : ∀ k, K ≤ k → g k = some r) : Ev g r := ⟨K, h⟩
theorem Ev.ok {α : Type} {g : Nat → Option α} {r r' : α} (h : Ev g r) (e : r = r') : Ev g r' := e ▸ h
def isEnd (m : Msg) : Bool := decide (m.f1 = 16) && (decide (m.f3 = 47) && decide (m.f5.size = 0))
theorem last_f (m : Msg) : smf_last.f m.f0 m.f1 m.f2 m.f3 m.f4 m.f5 = some (isEnd m) := by
  unfold smf_last.f isEnd
  by_cases h1 : m.f1 = 16
  · rw [if_pos h1, decide_eq_true h1, Bool.true_and]
    by_cases h2 : m.f3 = 47
    · rw [if_pos h2, decide_eq_true h2, Bool.true_and]
      congr 1
      rw [Bool.eq_iff_iff]
      simp only [beq_iff_eq, decide_eq_true_eq]
      exact toList_nil m.f5
    · rw [if_neg h2, decide_eq_false h2, Bool.false_and]
  · rw [if_neg h1, decide_eq_false h1, Bool.false_and]
def fIdx (p : Msg → Bool) : List Msg → Nat → Int
  | [], _ => -1
  | m :: r, i => if p m = true then (i : Int) else fIdx p r (i + 1)
theorem idx60_l0 (l : List Msg) (hl : l.length ≤ 1000000000) : ∀ (j i k : Nat), i + j = l.length → j < k → api_Midi_60.l0 k l (l.length : Int) (i : Int) = some (fIdx isEnd (l.drop i) i)
  | 0, i, k, hj, hk => by
    obtain ⟨k, rfl⟩ : ∃ m, k = m + 1 := ⟨k - 1, by omega⟩
    simp only [api_Midi_60.l0]
    rw [if_neg (by omega), List.drop_eq_nil_of_le (by omega)]
    rfl
  | j + 1, i, k, hj, hk => by
    obtain ⟨k, rfl⟩ : ∃ m, k = m + 1 := ⟨k - 1, by omega⟩
    simp only [api_Midi_60.l0]
    rw [if_pos (by omega), if_pos (by omega), if_pos (by omega), last_f, Option.bind_some]
    have e1 : wrap64 ((i : Int) + 1) = ((i + 1 : Nat) : Int) := by rw [w64 (by omega) (by omega)]; omega
    rw [rd_drop l i (by omega), fIdx, e1, idx60_l0 l hl j (i + 1) k (by omega) (by omega)]
    split <;> rfl
theorem idx60_ev (l : List Msg) (hl : l.length ≤ 1000000000) : Ev (fun k => api_Midi_60.f k l) (fIdx isEnd l 0) :=
  ⟨l.length + 1, fun k hk => idx60_l0 l hl l.length 0 k (by omega) (by omega)⟩
def wrongM (m : Msg) : Bool := !decide (Right m)
theorem check1_f (m : Msg) (k : Nat) (hk : 6 ≤ k) : smf_Check_1.f k m.f0 m.f1 m.f2 m.f3 m.f4 m.f5 = some (wrongM m) := by
  unfold smf_Check_1.f
  rw [right_f m k hk]
  rfl
theorem idx31_l0 (l : List Msg) (hl : l.length ≤ 1000000000) : ∀ (j i k : Nat), i + j = l.length → j + 6 < k → smf_Parse_1.l0 k l (l.length : Int) (i : Int) = some (fIdx wrongM (l.drop i) i)
  | 0, i, k, hj, hk => by
    obtain ⟨k, rfl⟩ : ∃ m, k = m + 1 := ⟨k - 1, by omega⟩
    simp only [smf_Parse_1.l0]
    rw [if_neg (by omega), List.drop_eq_nil_of_le (by omega)]
    rfl
  | j + 1, i, k, hj, hk => by
    obtain ⟨k, rfl⟩ : ∃ m, k = m + 1 := ⟨k - 1, by omega⟩
    simp only [smf_Parse_1.l0]
    rw [if_pos (by omega), if_pos (by omega), if_pos (by omega), check1_f _ k (by omega), Option.bind_some]
    have e1 : wrap64 ((i : Int) + 1) = ((i + 1 : Nat) : Int) := by rw [w64 (by omega) (by omega)]; omega
    rw [rd_drop l i (by omega), fIdx, e1, idx31_l0 l hl j (i + 1) k (by omega) (by omega)]
    split <;> rfl
theorem fIdx_none {p : Msg → Bool} : ∀ {l : List Msg} {i : Nat}, (∀ m ∈ l, p m = false) → fIdx p l i = -1
  | [], _, _ => rfl
  | m :: r, i, h => by
    rw [fIdx, if_neg (by rw [h m (by simp)]; decide)]
    exact fIdx_none (fun x hx => h x (by simp [hx]))
theorem fIdx_some {p : Msg → Bool} : ∀ {l : List Msg} {i : Nat}, (∃ m ∈ l, p m = true) → 0 ≤ fIdx p l i ∧ (i : Int) ≤ fIdx p l i ∧ fIdx p l i < i + l.length
  | [], _, h => by obtain ⟨m, hm, _⟩ := h; cases hm
  | m :: r, i, h => by
    rw [fIdx]
    by_cases c : p m = true
    · rw [if_pos c, List.length_cons]; omega
    · rw [if_neg c]
      obtain ⟨x, hx, hp⟩ := h
      rcases List.mem_cons.1 hx with rfl | hx
      · exact absurd hp c
      · have := fIdx_some (p := p) (l := r) (i := i + 1) ⟨x, hx, hp⟩
        rw [List.length_cons]
        omega
theorem odd_ev (l : List Msg) (hl : l.length ≤ 1000000000) : Ev (fun k => api_Midi_39.f k l) (l.any wrongM) := by
  have h : Ev (fun k => smf_Parse_1.f k l) (fIdx wrongM l 0) := ⟨l.length + 7, fun k hk => idx31_l0 l hl l.length 0 k (by omega) (by omega)⟩
  refine Ev.ok (Ev.bind h (Ev.now _)) ?_
  by_cases c : ∃ m ∈ l, wrongM m = true
  · have := (fIdx_some (i := 0) c).1
    rw [decide_eq_true (by omega)]
    exact (List.any_eq_true.2 c).symm
  · have h2 : ∀ m ∈ l, wrongM m = false := fun m hm => by
      cases hw : wrongM m
      · rfl
      · exact absurd ⟨m, hm, hw⟩ c
    rw [fIdx_none h2]
    rw [Bool.eq_false_iff.2 (fun hc => c (List.any_eq_true.1 hc))]
    rfl
theorem any_wrong (l : List Msg) : l.any wrongM = true ↔ ¬ Rights l := by
  rw [List.any_eq_true]
  unfold wrongM Rights
  constructor
  · rintro ⟨m, hm, h⟩ hr
    simp [hr m hm] at h
  · intro h
    refine Classical.byContradiction fun hn => h fun m hm => Classical.byContradiction fun hc => hn ⟨m, hm, by simp [hc]⟩
def endsB : List Msg → Bool
  | [] => false
  | [m] => isEnd m
  | m :: n :: r => !isEnd m && endsB (n :: r)
theorem fIdx_ends : ∀ (l : List Msg) (i : Nat), l ≠ [] → (fIdx isEnd l i == (i : Int) + l.length - 1) = endsB l
  | [], _, h => absurd rfl h
  | [m], i, _ => by
    rw [fIdx, endsB]
    cases isEnd m
    · simp [fIdx] <;> omega
    · simp
  | m :: n :: r, i, _ => by
    rw [fIdx, endsB]
    have ih := fIdx_ends (n :: r) (i + 1) (by simp)
    cases isEnd m
    · rw [if_neg (by decide), ← ih]
      simp only [List.length_cons, Bool.not_false, Bool.true_and]
      congr 1
      omega
    · rw [if_pos rfl]
      simp only [List.length_cons, Bool.not_true, Bool.false_and]
      exact beq_eq_false_iff_ne.mpr (by omega)
theorem ends_ev (l : List Msg) (hl : l.length ≤ 1000000000) : Ev (fun k => smf_ends.f k l) (endsB l) := by
  by_cases c : (l.length : Int) > 0
  · refine Ev.yes c (Ev.ok (Ev.bind (idx60_ev l hl) (Ev.now _)) ?_)
    rw [w64 (by omega) (by omega), ← fIdx_ends l 0 (by intro h; rw [h] at c; simp at c)]
    simp
  · refine Ev.no c (Ev.ok (Ev.now _) ?_)
    have : l = [] := List.eq_nil_of_length_eq_zero (by omega)
    rw [this]
    rfl
theorem endsB_snoc : ∀ {a : List Msg} {e : Msg}, isEnd e = true → (∀ m ∈ a, isEnd m = false) → endsB (a ++ [e]) = true
  | [], e, h, _ => h
  | [m], e, h, k => by
    show (!isEnd m && isEnd e) = true
    rw [h, k m (by simp)]
    rfl
  | m :: n :: r, e, h, k => by
    show (!isEnd m && endsB ((n :: r) ++ [e])) = true
    rw [endsB_snoc h (fun x hx => k x (by simp [hx])), k m (by simp)]
    rfl
theorem endsB_ne {l : List Msg} (h : endsB l = true) : l ≠ [] := by rintro rfl; cases h
noncomputable def checkL : List (List Msg) → Int → Int × Int
  | [], _ => (0, 0)
  | l :: r, i => if l.any wrongM = true then (i, 151) else if endsB l = true then checkL r (i + 1) else (i, 160)
def headBad (f d : Int) (n : Nat) : Bool := decide (f < 0) || decide (f > 1) || decide (d < 1) || decide (d > 32767) || decide (n < 1) || decide (n > 16) || (decide (n > 1) && decide (f = 0))
noncomputable def checkM (f d : Int) (ts : List (List Msg)) : Int × Int := if headBad f d ts.length = true then (0, 160) else checkL ts 0
theorem rdL_drop (l : List (List Msg)) (i : Nat) (h : i < l.length) : l.drop i = rd_L3 l (i : Int) :: l.drop (i + 1) := by
  rw [List.drop_eq_getElem_cons h]
  unfold rd_L3
  rw [Int.toNat_natCast, List.getD_eq_getElem?_getD, List.getElem?_eq_getElem h]
  rfl
theorem rdL_mem (l : List (List Msg)) (i : Nat) (h : i < l.length) : rd_L3 l (i : Int) ∈ l := by
  unfold rd_L3
  rw [Int.toNat_natCast, List.getD_eq_getElem?_getD, List.getElem?_eq_getElem h]
  exact List.getElem_mem h
def Small (ts : List (List Msg)) : Prop := ts.length ≤ 1000000000 ∧ ∀ l ∈ ts, l.length ≤ 1000000000
theorem check_l0 (ts : List (List Msg)) (hs : Small ts) : ∀ (j i : Nat), i + j = ts.length → Ev (fun k => smf_Check.l0 k ts (ts.length : Int) (i : Int)) (checkL (ts.drop i) i)
  | 0, i, hj => by
    refine Ev.step (fun k => by rw [smf_Check.l0]) ?_
    refine Ev.no (by omega) (Ev.ok (Ev.now _) ?_)
    rw [List.drop_eq_nil_of_le (by omega)]
    rfl
  | j + 1, i, hj => by
    refine Ev.step (fun k => by rw [smf_Check.l0]) ?_
    refine Ev.yes (by omega) (Ev.yes (by omega) (Ev.yes (by omega) ?_))
    have hl : (rd_L3 ts (i : Int)).length ≤ 1000000000 := hs.2 _ (rdL_mem ts i (by omega))
    refine Ev.bind (odd_ev _ hl) ?_
    rw [rdL_drop ts i (by omega), checkL]
    have e1 : wrap64 ((i : Int) + 1) = ((i + 1 : Nat) : Int) := by have := hs.1; rw [w64 (by omega) (by omega)]; omega
    by_cases c : (rd_L3 ts (i : Int)).any wrongM = true
    · rw [if_pos c]
      exact Ev.yes c (Ev.now _)
    · rw [if_neg c]
      refine Ev.no c (Ev.bind (ends_ev _ hl) ?_)
      by_cases c2 : endsB (rd_L3 ts (i : Int)) = true
      · rw [if_pos c2]
        refine Ev.yes c2 ?_
        rw [e1]
        have := check_l0 ts hs j (i + 1) (by omega)
        rw [show (((i + 1 : Nat) : Int)) = (i : Int) + 1 by omega] at this ⊢
        exact this
      · rw [if_neg c2]
        exact Ev.no c2 (Ev.now _)
theorem check_j0 (f d : Int) (ts : List (List Msg)) (hs : Small ts) (b : Bool) : Ev (fun k => smf_Check.j0 k b f d ts) (if b = true then (0, 160) else checkL ts 0) := by
  refine Ev.step (fun k => by rw [smf_Check.j0]) ?_
  cases b
  · exact Ev.no (by decide) (check_l0 ts hs ts.length 0 (by omega))
  · exact Ev.yes rfl (Ev.now _)
theorem check_ev (f d : Int) (ts : List (List Msg)) (hs : Small ts) : Ev (fun k => smf_Check.f k f d ts) (checkM f d ts) := by
  unfold checkM headBad
  show Ev (fun k => if f < 0 then _ else _) _
  by_cases c1 : f < 0
  · exact Ev.yes c1 (Ev.ok (check_j0 f d ts hs true) (by simp [c1]))
  refine Ev.no c1 ?_
  by_cases c2 : f > 1
  · exact Ev.yes c2 (Ev.ok (check_j0 f d ts hs true) (by simp [c2]))
  refine Ev.no c2 ?_
  by_cases c3 : d < 1
  · exact Ev.yes c3 (Ev.ok (check_j0 f d ts hs true) (by simp [c3]))
  refine Ev.no c3 ?_
  by_cases c4 : d > 32767
  · exact Ev.yes c4 (Ev.ok (check_j0 f d ts hs true) (by simp [c4]))
  refine Ev.no c4 ?_
  by_cases c5 : (ts.length : Int) < 1
  · have c5' : ts.length < 1 := by omega
    exact Ev.yes c5 (Ev.ok (check_j0 f d ts hs true) (by simp [c5']))
  refine Ev.no c5 ?_
  have c5' : ¬ ts.length < 1 := by omega
  by_cases c6 : (ts.length : Int) > 16
  · have c6' : ts.length > 16 := by omega
    exact Ev.yes c6 (Ev.ok (check_j0 f d ts hs true) (by simp [c6']))
  refine Ev.no c6 ?_
  have c6' : ¬ ts.length > 16 := by omega
  by_cases c7 : (ts.length : Int) > 1
  · have c7' : ts.length > 1 := by omega
    refine Ev.yes c7 (Ev.ok (check_j0 f d ts hs (f == 0)) ?_)
    by_cases c8 : f = 0 <;> simp [c1, c2, c3, c4, c5', c6', c7', c8]
  · have c7' : ¬ ts.length > 1 := by omega
    refine Ev.no c7 (Ev.ok (check_j0 f d ts hs false) ?_)
    simp [c1, c2, c3, c4, c5', c6', c7']
theorem checkL_ok : ∀ {ts : List (List Msg)} {i : Int}, (∀ l ∈ ts, Rights l ∧ endsB l = true) → checkL ts i = (0, 0)
  | [], _, _ => rfl
  | l :: r, i, h => by
    obtain ⟨h1, h2⟩ := h l (by simp)
    rw [checkL, if_neg (fun c => (any_wrong l).1 c h1), if_pos h2]
    exact checkL_ok (fun x hx => h x (by simp [hx]))
theorem checkL_e : ∀ {ts : List (List Msg)} {i : Int}, (checkL ts i).2 = 0 → ∀ l ∈ ts, Rights l ∧ endsB l = true
  | [], _, _ => fun l hl => by cases hl
  | l :: r, i, h => by
    rw [checkL] at h
    by_cases c : l.any wrongM = true
    · rw [if_pos c] at h; cases h
    · rw [if_neg c] at h
      by_cases c2 : endsB l = true
      · rw [if_pos c2] at h
        intro x hx
        rcases List.mem_cons.1 hx with rfl | hx
        · exact ⟨Classical.byContradiction fun hn => c ((any_wrong x).2 hn), c2⟩
        · exact checkL_e h x hx
      · rw [if_neg c2] at h; cases h
theorem S28_ext {a b : Msg} (h0 : a.f0 = b.f0) (h1 : a.f1 = b.f1) (h2 : a.f2 = b.f2) (h3 : a.f3 = b.f3) (h4 : a.f4 = b.f4) (h5 : a.f5 = b.f5) : a = b := by
  cases a; cases b; cases h0; cases h1; cases h2; cases h3; cases h4; cases h5; rfl
noncomputable instance : DecidableEq Msg := fun a b => Classical.propDecidable _
def diffB (a b : Msg) : Bool := (!((a.f0) == (b.f0)) || (!((a.f1) == (b.f1)) || (!((a.f2) == (b.f2)) || (!((a.f3) == (b.f3)) || (!((a.f4) == (b.f4)) || (!(((a.f5).toList) == ((b.f5).toList))))))))
theorem diffB_iff (a b : Msg) : diffB a b = true ↔ a ≠ b := by
  unfold diffB
  simp only [Bool.or_eq_true, Bool.not_eq_true', beq_eq_false_iff_ne, ne_eq]
  constructor
  · rintro h rfl
    simp at h
  · intro h
    refine Classical.byContradiction fun hn => h ?_
    simp only [not_or, Decidable.not_not] at hn
    obtain ⟨h0, h1, h2, h3, h4, h5⟩ := hn
    exact S28_ext h0 h1 h2 h3 h4 (toList_eq.1 h5)
theorem eq27_l0 (a b : List Msg) (hl : a.length ≤ 1000000000) (he : a.length = b.length) : ∀ (j i k : Nat), i + j = a.length → j < k → ∃ r, api_Midi_27.l0 k a b (a.length : Int) (i : Int) = some r ∧ (r = true ↔ a.drop i = b.drop i)
  | 0, i, k, hj, hk => by
    obtain ⟨k, rfl⟩ : ∃ m, k = m + 1 := ⟨k - 1, by omega⟩
    simp only [api_Midi_27.l0]
    rw [if_neg (by omega), List.drop_eq_nil_of_le (by omega), List.drop_eq_nil_of_le (by omega)]
    exact ⟨true, rfl, by simp⟩
  | j + 1, i, k, hj, hk => by
    obtain ⟨k, rfl⟩ : ∃ m, k = m + 1 := ⟨k - 1, by omega⟩
    simp only [api_Midi_27.l0]
    rw [if_pos (by omega), if_pos (by omega), if_pos (by omega), if_pos (by omega)]
    have e1 : wrap64 ((i : Int) + 1) = ((i + 1 : Nat) : Int) := by rw [w64 (by omega) (by omega)]; omega
    rw [rd_drop a i (by omega), rd_drop b i (by omega), e1]
    show ∃ r, (if diffB (rd_T28 a (i : Int)) (rd_T28 b (i : Int)) = true then some false else api_Midi_27.l0 k a b (a.length : Int) ((i + 1 : Nat) : Int)) = some r ∧ _
    by_cases c : diffB (rd_T28 a (i : Int)) (rd_T28 b (i : Int)) = true
    · rw [if_pos c]
      refine ⟨false, rfl, ?_⟩
      have := (diffB_iff _ _).1 c
      simp [this]
    · rw [if_neg c]
      obtain ⟨r, h1, h2⟩ := eq27_l0 a b hl he j (i + 1) k (by omega) (by omega)
      refine ⟨r, h1, ?_⟩
      have : rd_T28 a (i : Int) = rd_T28 b (i : Int) := Classical.byContradiction fun hn => c ((diffB_iff _ _).2 hn)
      rw [h2, this, List.cons.injEq]
      simp
theorem eq27_ev (a b : List Msg) (hl : a.length ≤ 1000000000) : Ev (fun k => api_Midi_27.f k a b) (decide (a = b)) := by
  by_cases c : (a.length : Int) = (b.length : Int)
  · refine ⟨a.length + 1, fun k hk => ?_⟩
    show (if (a.length : Int) = (b.length : Int) then _ else _) = _
    rw [if_pos c]
    obtain ⟨r, h1, h2⟩ := eq27_l0 a b hl (by omega) a.length 0 k (by omega) (by omega)
    rw [show ((0 : Nat) : Int) = 0 from rfl] at h1
    rw [h1]
    simp only [List.drop_zero] at h2
    congr 1
    rw [Bool.eq_iff_iff, h2, decide_eq_true_eq]
  · refine Ev.no c (Ev.ok (Ev.now _) ?_)
    rw [decide_eq_false (by rintro rfl; exact c rfl)]
theorem eq26_l0 (a b : List (List Msg)) (hs : Small a) (he : a.length = b.length) : ∀ (j i : Nat), i + j = a.length → Ev (fun k => api_Midi_26.l0 k b a (a.length : Int) (i : Int)) (decide (a.drop i = b.drop i))
  | 0, i, hj => by
    refine Ev.step (fun k => by rw [api_Midi_26.l0]) (Ev.no (by omega) (Ev.ok (Ev.now _) ?_))
    rw [List.drop_eq_nil_of_le (by omega), List.drop_eq_nil_of_le (by omega)]
    simp
  | j + 1, i, hj => by
    refine Ev.step (fun k => by rw [api_Midi_26.l0]) (Ev.yes (by omega) (Ev.yes (by omega) (Ev.yes (by omega) (Ev.yes (by omega) ?_))))
    have hl : (rd_L3 a (i : Int)).length ≤ 1000000000 := hs.2 _ (rdL_mem a i (by omega))
    have e1 : wrap64 ((i : Int) + 1) = ((i + 1 : Nat) : Int) := by have := hs.1; rw [w64 (by omega) (by omega)]; omega
    refine Ev.bind (eq27_ev _ _ hl) ?_
    rw [rdL_drop a i (by omega), rdL_drop b i (by omega), e1]
    by_cases c : rd_L3 a (i : Int) = rd_L3 b (i : Int)
    · refine Ev.yes (decide_eq_true c) (Ev.ok (eq26_l0 a b hs he j (i + 1) (by omega)) ?_)
      rw [c]
      simp
    · refine Ev.no (by simp [c]) (Ev.ok (Ev.now _) ?_)
      simp [c]
theorem same_ev (f d : Int) (a : List (List Msg)) (f' d' : Int) (b : List (List Msg)) (hs : Small a) : Ev (fun k => smf_Same.f k f d a f' d' b) (decide (f = f' ∧ d = d' ∧ a = b)) := by
  show Ev (fun k => if f = f' then _ else _) _
  by_cases c1 : f = f'
  · refine Ev.yes c1 ?_
    by_cases c2 : d = d'
    · refine Ev.yes c2 ?_
      have h : Ev (fun k => api_Midi_26.f k a b) (decide (a = b)) := by
        by_cases c3 : (a.length : Int) = (b.length : Int)
        · exact Ev.yes c3 (eq26_l0 a b hs (by omega) a.length 0 (by omega))
        · refine Ev.no c3 (Ev.ok (Ev.now _) ?_)
          rw [decide_eq_false (by rintro rfl; exact c3 rfl)]
      refine Ev.ok (Ev.bind h (Ev.now _)) ?_
      simp [c1, c2]
    · refine Ev.no c2 (Ev.ok (Ev.now _) ?_)
      simp [c2]
  · refine Ev.no c1 (Ev.ok (Ev.now _) ?_)
    simp [c1]
end Go.Proofs.Ytdmnknhlibaaoaa.Z
namespace Go.Proofs.Ytdmnknhlibaaoaa.M
open Go.RowKit Go.Proofs.YtdmnknhlibaaoaaW.PrintWords Go.Proofs.YtdmnknhlibaaoaaW.PrintLast Go.Proofs.YtdmnknhlibaaoaaW.PrintMore
set_option linter.unusedVariables false
set_option linter.unusedSimpArgs false
def MkRow (w : World) (base : Nat) (v : Value) (xs : List Int) : Prop :=
  ∃ g fz, v = .slice (some ⟨g, 0, none⟩) xs.length xs.length ∧ base ≤ g ∧ w.heap[g]? = some (.cells (nums .u8 xs).toArray 5 fz)
theorem MkRow.lt {w : World} {base : Nat} {v : Value} {xs : List Int} (h : MkRow w base v xs) : ∃ g, v = .slice (some ⟨g, 0, none⟩) xs.length xs.length ∧ g < w.heap.size := by
  obtain ⟨g, fz, rfl, _, hg⟩ := h
  exact ⟨g, rfl, blk_lt hg⟩
theorem MkRow.below {w w1 : World} {base : Nat} {v : Value} {xs : List Int} (h : MkRow w base v xs) (hb : Below w.heap.size w w1) : MkRow w1 base v xs := by
  obtain ⟨g, fz, rfl, h0, hg⟩ := h
  exact ⟨g, fz, rfl, h0, (hb.block g (blk_lt hg)).trans hg⟩
theorem MkRow.alloc {w : World} {base : Nat} {v : Value} {xs : List Int} (h : MkRow w base v xs) (o : Obj) : MkRow (w.alloc o) base v xs := by
  obtain ⟨g, fz, rfl, h0, hg⟩ := h
  exact ⟨g, fz, rfl, h0, blk_alloc hg o⟩
theorem MkRow.drew {w : World} {base : Nat} {v : Value} {xs : List Int} (h : MkRow w base v xs) : MkRow w.drew base v xs := by
  obtain ⟨g, fz, rfl, h0, hg⟩ := h
  exact ⟨g, fz, rfl, h0, blk_drew hg⟩
theorem MkRow.start (w6 : World) {base : Nat} {y : List Int} (hy : y = [77, 84, 104, 100, 0, 0, 0, 6]) (h : base ≤ w6.heap.size) : MkRow (w6.alloc (.cells #[.int .u8 77, .int .u8 84, .int .u8 104, .int .u8 100, .int .u8 0, .int .u8 0, .int .u8 0, .int .u8 6] 5 (8, 9))) base (.slice (some ⟨w6.heap.size, 0, none⟩) 8 8) y := by
  subst hy
  exact ⟨w6.heap.size, (8, 9), rfl, h, by simpa [nums] using heap_alloc_new w6 (.cells #[.int .u8 77, .int .u8 84, .int .u8 104, .int .u8 100, .int .u8 0, .int .u8 0, .int .u8 0, .int .u8 6] 5 (8, 9))⟩
theorem mark_append {P : Program} {ops : Array Oper} {rest : List Oper} {o : Oper} {a : Act} {Q : Exit → Act → World → Prop} {w0 W : World} (base : Nat) (hgd : o.guard = none) (s x : Operand) (t : TypeId)
    (ho : o.op = .call { callee := .builtin .append, args := #[s, x], argTypes := #[t, t] })
    (ht : P.underlying t = some (.slice 5)) (hinfo : (P.info? 5).map (fun i => (i.zero, i.size, i.bytes)) = some (some (.int .u8 0), 1, 1))
    (v : Value) (xs ys : List Int) (A : Option Addr) (m c : Nat) (b0 : Nat) (ok : Nat → Prop) (hs : a.eval s = v) (hx : a.eval x = .slice A m c) (hm : 0 < m)
    (HO : MkRow W base v xs) (HY : Kd.R (Kd.int .u8) 5 W b0 ok (.slice A m c) ys)
    (HB : Below base w0 W) (hbase : base ≤ W.heap.size) (hl : xs.length + m ≤ 140737488355328)
    (h : ∀ v1 w1, Kd.R (Kd.int .u8) 5 w1 base (fun _ => True) v1 (xs ++ ys) → Below base w0 w1 → W.grownBy w1 none → (∃ b, v1.ownBlock = some b ∧ W.heap.size ≤ b) → wpList P ops Q rest (a.put o.dst v1) w1) :
    wpList P ops Q (o :: rest) a W := by
  obtain ⟨i0, hi, hzz⟩ := Option.map_eq_some_iff.1 hinfo
  simp only [Prod.mk.injEq] at hzz
  obtain ⟨hz0, hz1, hz2⟩ := hzz
  have hym : m = ys.length := (Kd.R_reads' HY).1
  have hy := Kd.own_of_R HY
  obtain ⟨g, fz, rfl, hg0, hg⟩ := HO
  rcases hy.2 with ⟨he, _⟩ | ⟨gy, capy, cury, hey, hgy, hhy, hny, hcy, hsy, hty⟩
  · injection he with _ he _
    omega
  · injection hey with h1 h2 h3
    subst h1
    refine wpList_append_grows W hgd s x t ho 5 i0 (.int .u8 0) 1 1 ht hi hz0 hz1 hz2 rfl (by decide) (some ⟨g, 0, none⟩) xs.length xs.length (nums .u8 xs) hs (by simp) (by rw [nums_length]; omega) ?_
      ⟨gy, 0, none⟩ m c (nums .u8 ys) hx (by rw [nums_length]; omega) ?_ ?_ (by omega) (by simp only [maxLen]; omega) (by omega) ?_
    · intro b hb j u hj
      injection hb with hb
      subst hb
      rw [Addr.add_lit, Nat.zero_add]
      simp only [World.cell?, hg]
      simpa using hj
    · intro j u hj
      rw [Addr.add_lit, Nat.zero_add]
      simp only [World.cell?, hhy]
      have hj2 : (encs (Value.int .u8) ys)[j]? = some u := hj
      rw [← hty] at hj2
      rw [List.getElem?_take] at hj2
      split at hj2
      · simpa using hj2
      · cases hj2
    · intro u hu
      simp only [nums, List.mem_map] at hu
      obtain ⟨q, _, rfl⟩ := hu
      rfl
    · intro v1 w1 hown hgr
      have hlen : (xs ++ ys).length = xs.length + m := by rw [List.length_append]; omega
      rw [← nums_append, ← hlen] at hown
      have hR : Kd.R (Kd.int .u8) 5 w1 W.heap.size (fun _ => True) v1 (xs ++ ys) := Kd.R_of_own (h1 := fun _ => rfl) (ok := fun _ => True) hown (fun _ _ => trivial)
      refine h v1 w1 (Kd.R_lower hR hbase) (HB.grown hgr hbase (by simp)) hgr ?_
      rcases hown.2 with ⟨rfl, h0⟩ | ⟨g1, cap1, cur1, rfl, hg1, _⟩
      · omega
      · exact ⟨g1, rfl, hg1⟩
end Go.Proofs.Ytdmnknhlibaaoaa.M
namespace Go.Proofs.Ytdmnknhlibaaoaa.M
open Go.RowKit Go.Proofs.YtdmnknhlibaaoaaW.PrintWords Go.Proofs.YtdmnknhlibaaoaaW.PrintLast Go.Proofs.YtdmnknhlibaaoaaW.PrintMore
attribute [local go_sem] max2_int min2_int max_two min_two max_three min_three max_four min_four
set_option linter.unusedVariables false
set_option linter.unusedSimpArgs false
mutual
def smf_Print.l0 : Nat → List Int → List Int → Int → Int → Int → Int → List (List (S28)) → Option (ByteArray × Int)
  | 0, _, _, _, _, _, _, _ => none
  | k + 1, x6, x31, x32, x33, x102000, x102001, x102002 => if x33 < x32 then (if 0 ≤ x33 then (if x33 < (x31.length : Int) then ((some (([((rd x31 x33) / 256) % 256, (rd x31 x33) % 256] : List Int) : List Int)).bind fun y111 => (if x6.length + y111.length < 140737488355328 then (smf_Print.l0 k (x6 ++ y111) x31 x32 (wrap64 (x33 + 1)) x102000 x102001 x102002) else (none))) else (none)) else (none)) else (smf_Print.l1 k x6 x102002 (x102002.length : Int) 0)
def smf_Print.l1 : Nat → List Int → List (List (S28)) → Int → Int → Option (ByteArray × Int)
  | 0, _, _, _, _ => none
  | k + 1, x6, x47, x48, x49 => if x49 < x48 then (if 0 ≤ x49 then (if x49 < (x47.length : Int) then ((wire_Encode.f k (rd_L3 x47 x49)).bind fun bt118 => (if x6.length + 4 < 140737488355328 then ((some (x6 ++ bytesOf (⟨#[77, 84, 114, 107]⟩ : ByteArray) : List Int)).bind fun y120 => ((some (([((bt118.1.size : Int) / 16777216) % 256, ((bt118.1.size : Int) / 65536) % 256, ((bt118.1.size : Int) / 256) % 256, ((bt118.1.size : Int)) % 256] : List Int) : List Int)).bind fun y123 => (if y120.length + y123.length < 140737488355328 then ((some (y120 ++ y123 : List Int)).bind fun y126 => (if y126.length + bt118.1.size < 140737488355328 then (smf_Print.l1 k (y126 ++ bytesOf bt118.1) x47 x48 (wrap64 (x49 + 1))) else (none))) else (none)))) else (none))) else (none)) else (none)) else (if (x6.length : Int) > 100000 then (some ((⟨#[]⟩ : ByteArray), 160)) else (some (strOfNums x6, 0)))
end
def smf_Print.f (k : Nat) (a0_0 : Int) (a0_1 : Int) (l0_2 : List (List (S28))) : Option (ByteArray × Int) := (smf_Check.f k a0_0 a0_1 l0_2).bind fun bt102 => (if bt102.2 = 0 then ((some (([a0_0, (l0_2.length : Int), a0_1] : List Int) : List Int)).bind fun y107 => (smf_Print.l0 k (([77, 84, 104, 100, 0, 0, 0, 6] : List Int)) y107 (y107.length : Int) 0 a0_0 a0_1 l0_2)) else (some ((⟨#[]⟩ : ByteArray), bt102.2)))
theorem smf_Print.mono_l : ∀ k, (∀ y0 y1 y2 y3 y4 y5 y6, LeO (smf_Print.l0 k y0 y1 y2 y3 y4 y5 y6) (smf_Print.l0 (k + 1) y0 y1 y2 y3 y4 y5 y6)) ∧ (∀ y0 y1 y2 y3, LeO (smf_Print.l1 k y0 y1 y2 y3) (smf_Print.l1 (k + 1) y0 y1 y2 y3))
  | 0 => ⟨fun _ _ _ _ _ _ _ r h => by simp [smf_Print.l0] at h, fun _ _ _ _ r h => by simp [smf_Print.l1] at h⟩
  | k + 1 => by
    obtain ⟨ih0, ih1⟩ := smf_Print.mono_l k
    refine ⟨?_, ?_⟩
    · intro y0 y1 y2 y3 y4 y5 y6
      unfold smf_Print.l0
      repeat' first
      | (with_reducible exact ih0 _ _ _ _ _ _ _)
      | (with_reducible exact ih1 _ _ _ _)
      | (with_reducible exact smf_Check.mono _ _ _ _)
      | (with_reducible exact wire_Encode.mono _ _)
      | (with_reducible exact LeO.refl _)
      | (with_reducible exact LeO.none _)
      | (with_reducible refine LeO.ite ?_ ?_)
      | (with_reducible refine LeO.bind ?_ (fun _ => ?_))
      | exact ih0 _ _ _ _ _ _ _
      | exact ih1 _ _ _ _
      | exact smf_Check.mono _ _ _ _
      | exact wire_Encode.mono _ _
      | exact LeO.none _
      | refine LeO.ite ?_ ?_
      | refine LeO.bind ?_ (fun _ => ?_)
    · intro y0 y1 y2 y3
      unfold smf_Print.l1
      repeat' first
      | (with_reducible exact ih0 _ _ _ _ _ _ _)
      | (with_reducible exact ih1 _ _ _ _)
      | (with_reducible exact smf_Check.mono _ _ _ _)
      | (with_reducible exact wire_Encode.mono _ _)
      | (with_reducible exact LeO.refl _)
      | (with_reducible exact LeO.none _)
      | (with_reducible refine LeO.ite ?_ ?_)
      | (with_reducible refine LeO.bind ?_ (fun _ => ?_))
      | exact ih0 _ _ _ _ _ _ _
      | exact ih1 _ _ _ _
      | exact smf_Check.mono _ _ _ _
      | exact wire_Encode.mono _ _
      | exact LeO.none _
      | refine LeO.ite ?_ ?_
      | refine LeO.bind ?_ (fun _ => ?_)
theorem smf_Print.mono : ∀ a0 a1 a2 k, LeO (smf_Print.f k a0 a1 a2) (smf_Print.f (k + 1) a0 a1 a2) := by
  intro a0 a1 a2 k
  obtain ⟨ih0, ih1⟩ := smf_Print.mono_l k
  unfold smf_Print.f
  repeat' first
      | (with_reducible exact ih0 _ _ _ _ _ _ _)
      | (with_reducible exact ih1 _ _ _ _)
      | (with_reducible exact smf_Check.mono _ _ _ _)
      | (with_reducible exact wire_Encode.mono _ _)
      | (with_reducible exact LeO.refl _)
      | (with_reducible exact LeO.none _)
      | (with_reducible refine LeO.ite ?_ ?_)
      | (with_reducible refine LeO.bind ?_ (fun _ => ?_))
      | exact ih0 _ _ _ _ _ _ _
      | exact ih1 _ _ _ _
      | exact smf_Check.mono _ _ _ _
      | exact wire_Encode.mono _ _
      | exact LeO.none _
      | refine LeO.ite ?_ ?_
      | refine LeO.bind ?_ (fun _ => ?_)
set_option maxHeartbeats 8000000 in
set_option maxRecDepth 100000 in
theorem smf_Print.calls (k : Nat) (a0_0 : Int) (a0_1 : Int) (A0_2 : Option Addr) (c0_2 : Nat) (l0_2 : List (List (S28))) (r1 : ByteArray) (r2 : Int) (w : World) (hr0_2 : Kd.C (Kd.slice 28 k28) w A0_2 l0_2.length l0_2) (hc0_2 : l0_2.length ≤ c0_2) (h : smf_Print.f k a0_0 a0_1 l0_2 = some (r1, r2)) :
    Calls Try.prog 15 #[.agg #[.int .i64 a0_0, .int .i64 a0_1, .slice A0_2 l0_2.length c0_2]] w fun e w' => e = .returned (.tuple #[.string r1, .int .i64 r2]) ∧ Below w.heap.size w w' := by
  have hu24 := Try.underlying24
  have HR0_2 := Aside0.mk hr0_2
  have HC0_2 := Aside0.mk hc0_2
  clear hr0_2 hc0_2
  have HB := Aside0.mk (Below.refl w.heap.size w)
  have H : ((smf_Check.f k a0_0 a0_1 l0_2).bind fun bt102 => (if bt102.2 = 0 then ((some (([a0_0, (l0_2.length : Int), a0_1] : List Int) : List Int)).bind fun y107 => (smf_Print.l0 k (([77, 84, 104, 100, 0, 0, 0, 6] : List Int)) y107 (y107.length : Int) 0 a0_0 a0_1 l0_2)) else (some ((⟨#[]⟩ : ByteArray), bt102.2)))) = some (r1, r2) := h
  clear h
  replace H := Option.bind_eq_some_iff.mp H
  obtain ⟨⟨t102, t103⟩, A20, H⟩ := H
  replace H : (if t103 = 0 then ((some (([a0_0, (l0_2.length : Int), a0_1] : List Int) : List Int)).bind fun y107 => (smf_Print.l0 k (([77, 84, 104, 100, 0, 0, 0, 6] : List Int)) y107 (y107.length : Int) 0 a0_0 a0_1 l0_2)) else (some ((⟨#[]⟩ : ByteArray), t103))) = some (r1, r2) := H
  have A2 := Aside0.mk A20
  clear A20
  have hcv : ∀ (W : World), (convert 39 39 (.slice (some ⟨W.heap.size, 0, none⟩) 8 8)).run Try.prog (W.alloc (.cells #[.int .u8 77, .int .u8 84, .int .u8 104, .int .u8 100, .int .u8 0, .int .u8 0, .int .u8 0, .int .u8 6] 5)) = .ok (.slice (some ⟨W.heap.size, 0, none⟩) 8 8) (W.alloc (.cells #[.int .u8 77, .int .u8 84, .int .u8 104, .int .u8 100, .int .u8 0, .int .u8 0, .int .u8 0, .int .u8 6] 5 (8, 9))) := fun W => Lib.run_convert_bytes_const W 39 5 #[.int .u8 77, .int .u8 84, .int .u8 104, .int .u8 100, .int .u8 0, .int .u8 0, .int .u8 0, .int .u8 6] 8 8 Try.underlying39 Try.underlying5
  by_cases c3 : t103 = 0
  rotate_left
  · rw [if_neg c3] at H
    have c3b0 : (t103 == 0) = false := beq_eq_false_iff_ne.mpr c3
    have c3b1 : (t103 != 0) = true := bne_iff_ne.mpr c3
    simp only [Option.some.injEq, Prod.mk.injEq] at H
    obtain ⟨rfl, rfl⟩ := H
    go_enter Try.func15, Try.ntmps15
    go_wp2_with (first | ((with_reducible refine gate_dst (N := 1) rfl ?_); refine box_event ?hg (N := 1) ?hd (cs := #[.int .i64 a0_0, .int .i64 a0_1, .slice A0_2 l0_2.length c0_2]) (t := 24) ?hr ?_; (case hd => rfl); (case hg => rfl); (case hr => first | (go_simp; done) | (go_simp; rfl)); intro gb101 hg w40 hbox hb; have BK101 := Aside0.mk (hbox); have GW101 := Aside0.mk ((by rw [hg]; exact (below_size (qB HB.out)) : w.heap.size ≤ gb101)); have GE101 := Aside0.mk ((by rw [hg]; exact (below_size (qB HB.out)) : w.heap.size ≤ gb101)); replace HB := Aside0.mk (below_step (qB HB.out) hb); clear hb hbox hg; obtain ⟨hcz41_0, hcz41_1, hcz41_2, hfz41_0, hfz41_1, hfz41_2⟩ := blk3 BK101.out) | ((with_reducible refine gate_callee (f := 24) rfl ?_); refine goesL_ (some 16) rfl rfl Try.func24 (by kernel_rfl) rfl #[.agg #[.int .i64 a0_0, .int .i64 a0_1, .slice A0_2 l0_2.length c0_2]] rfl (by (try simp only [List.map_toArray, List.map_cons, List.map_nil]); first | done | rfl | (simp only [List.length_drop, List.length_take]; rfl)) ?_; (with_reducible refine (smf_Check.calls k a0_0 a0_1 _ _ l0_2 t102 t103 _ ?side1 ?side2 A2.out).mono ?_); (case side1 => repeat (first | exact (Kd.C_below HR0_2.out HB.out) | (with_reducible refine Kd.C_alloc ?_ _) | (with_reducible refine Kd.C_drewN ?_ _) | (with_reducible refine Kd.C_drew ?_))); (case side2 => exact HC0_2.out); rintro e w42 ⟨rfl, hb⟩; refine ⟨_, rfl, ?_⟩; replace BK101 := Aside0.mk (blk_below (bq BK101.out) hb); replace HB := Aside0.mk (below_step (qS1 GE101 HB.out) hb); (try clear hb); (try clear hb2); (try clear hk); (try clear hi)))
    go_ret2
    exact ⟨by first | rfl | (simp [errW_none, errW_some] <;> rfl) | (simp [*, errW_none, errW_some] <;> rfl), qS1 GE101 HB.out⟩
  rw [if_pos c3] at H
  have c3b0 : (t103 == 0) = true := beq_iff_eq.mpr c3
  have c3b1 : (t103 != 0) = false := bne_eq_false_iff_eq.mpr c3
  clear c3
  obtain ⟨y104, hy104⟩ : ∃ y_ : List Int, y_ = (([77, 84, 104, 100, 0, 0, 0, 6] : List Int)) := ⟨_, rfl⟩
  replace H : ((some (([a0_0, (l0_2.length : Int), a0_1] : List Int) : List Int)).bind fun y107 => (smf_Print.l0 k y104 y107 (y107.length : Int) 0 a0_0 a0_1 l0_2)) = some (r1, r2) := by first | (rw [hy104]; with_reducible exact H) | (have H2_ := (Option.bind_some _ _).symm.trans H; rw [hy104]; with_reducible exact H2_) | (have H2_ := (Option.bind_some _ _).symm.trans H; with_reducible exact H2_) | with_reducible exact H | (rw [hy104]; exact H) | exact H
  have Ny104 := Aside0.mk hy104
  clear hy104
  obtain ⟨y107, hy107⟩ : ∃ y_ : List Int, y_ = (([a0_0, (l0_2.length : Int), a0_1] : List Int)) := ⟨_, rfl⟩
  replace H : (smf_Print.l0 k y104 y107 (y107.length : Int) 0 a0_0 a0_1 l0_2) = some (r1, r2) := by first | (rw [hy107]; with_reducible exact H) | (have H2_ := (Option.bind_some _ _).symm.trans H; rw [hy107]; with_reducible exact H2_) | (have H2_ := (Option.bind_some _ _).symm.trans H; with_reducible exact H2_) | with_reducible exact H | (rw [hy107]; exact H) | exact H
  have Ny107 := Aside0.mk hy107
  clear hy107
  have H' := Aside0.mk H
  clear H
  go_enter Try.func15, Try.ntmps15
  go_wp2_with (first | ((with_reducible refine gate_dst (N := 1) rfl ?_); refine box_event ?hg (N := 1) ?hd (cs := #[.int .i64 a0_0, .int .i64 a0_1, .slice A0_2 l0_2.length c0_2]) (t := 24) ?hr ?_; (case hd => rfl); (case hg => rfl); (case hr => first | (go_simp; done) | (go_simp; rfl)); intro gb101 hg w4 hbox hb; have BK101 := Aside0.mk (hbox); have GW101 := Aside0.mk ((by rw [hg]; exact (below_size (qB HB.out)) : w.heap.size ≤ gb101)); have GE101 := Aside0.mk ((by rw [hg]; exact (below_size (qB HB.out)) : w.heap.size ≤ gb101)); replace HB := Aside0.mk (below_step (qB HB.out) hb); clear hb hbox hg; obtain ⟨hcz5_0, hcz5_1, hcz5_2, hfz5_0, hfz5_1, hfz5_2⟩ := blk3 BK101.out) | ((with_reducible refine gate_callee (f := 24) rfl ?_); refine goesL_ (some 16) rfl rfl Try.func24 (by kernel_rfl) rfl #[.agg #[.int .i64 a0_0, .int .i64 a0_1, .slice A0_2 l0_2.length c0_2]] rfl (by (try simp only [List.map_toArray, List.map_cons, List.map_nil]); first | done | rfl | (simp only [List.length_drop, List.length_take]; rfl)) ?_; (with_reducible refine (smf_Check.calls k a0_0 a0_1 _ _ l0_2 t102 t103 _ ?side1 ?side2 A2.out).mono ?_); (case side1 => repeat (first | exact (Kd.C_below HR0_2.out HB.out) | (with_reducible refine Kd.C_alloc ?_ _) | (with_reducible refine Kd.C_drewN ?_ _) | (with_reducible refine Kd.C_drew ?_))); (case side2 => exact HC0_2.out); rintro e w6 ⟨rfl, hb⟩; refine ⟨_, rfl, ?_⟩; replace BK101 := Aside0.mk (blk_below (bq BK101.out) hb); replace HB := Aside0.mk (below_step (qS1 GE101 HB.out) hb); (try clear hb); (try clear hb2); (try clear hk); (try clear hi); have hcz9_0 : (w6.alloc (.cells #[.int .u8 77, .int .u8 84, .int .u8 104, .int .u8 100, .int .u8 0, .int .u8 0, .int .u8 0, .int .u8 6] 5 (8, 9))).cell? ⟨gb101, 0, none⟩ = some (.int .i64 a0_0) := (blk_cell (blk_alloc BK101.out _) 0).trans rfl; have hfz9_0 := blk_frozen (blk_alloc BK101.out (.cells #[.int .u8 77, .int .u8 84, .int .u8 104, .int .u8 100, .int .u8 0, .int .u8 0, .int .u8 0, .int .u8 6] 5 (8, 9))) 0; have hcz9_1 : (w6.alloc (.cells #[.int .u8 77, .int .u8 84, .int .u8 104, .int .u8 100, .int .u8 0, .int .u8 0, .int .u8 0, .int .u8 6] 5 (8, 9))).cell? ⟨gb101, 1, none⟩ = some (.int .i64 a0_1) := (blk_cell (blk_alloc BK101.out _) 1).trans rfl; have hfz9_1 := blk_frozen (blk_alloc BK101.out (.cells #[.int .u8 77, .int .u8 84, .int .u8 104, .int .u8 100, .int .u8 0, .int .u8 0, .int .u8 0, .int .u8 6] 5 (8, 9))) 1; have hcz9_2 : (w6.alloc (.cells #[.int .u8 77, .int .u8 84, .int .u8 104, .int .u8 100, .int .u8 0, .int .u8 0, .int .u8 0, .int .u8 6] 5 (8, 9))).cell? ⟨gb101, 2, none⟩ = some (.slice A0_2 l0_2.length c0_2) := (blk_cell (blk_alloc BK101.out _) 2).trans rfl; have hfz9_2 := blk_frozen (blk_alloc BK101.out (.cells #[.int .u8 77, .int .u8 84, .int .u8 104, .int .u8 100, .int .u8 0, .int .u8 0, .int .u8 0, .int .u8 6] 5 (8, 9))) 2) | ((with_reducible refine gate_dst (N := 31) rfl ?_); refine Kd.R_lit (Kd.int .i64) _ 3 ?hg (N := 31) ?hd (xs := ([a0_0, (l0_2.length : Int), a0_1] : List Int)) (inner := [.int .i64 a0_0, .int .i64 (l0_2.length : Int), .int .i64 a0_1]) (ok := fun _ => True) (okp := fun _ => True) ?hr ?hp (fun _ hk => hk) trivial (Below.refl _ _) (Nat.le_refl _) (by simp) ?_; (case hd => rfl); (case hg => rfl); (case hr => first | (go_simp; done) | (go_simp; rfl)); (case hp => exact (Reps.one (show Kd.M (Kd.int .i64) _ _ _ a0_0 [.int .i64 a0_0] from rfl) (Reps.one (show Kd.M (Kd.int .i64) _ _ _ (l0_2.length : Int) [.int .i64 (l0_2.length : Int)] from rfl) (Reps.one (show Kd.M (Kd.int .i64) _ _ _ a0_1 [.int .i64 a0_1] from rfl) (Reps.none _ _))))); intro v108 w10 ho11 hb hg_ hnew_; clear hg_ hnew_; (first | rw [← Ny107.out] at ho11 | (simp only [Int.reduceToNat] at ho11; rw [← Ny107.out] at ho11)); have HO106 := Aside0.mk (MkRow.below (MkRow.start w6 Ny104.out (below_size HB.out)) hb); have HO109 := Aside0.mk (Kd.R_lower ho11 (below_size (qS1 GE101 HB.out))); replace BK101 := Aside0.mk (blk_below (bq BK101.out) hb); replace HB := Aside0.mk (below_step (qS1 GE101 HB.out) hb); clear hb ho11; obtain ⟨Ao12, co12, eo12⟩ := Kd.R_slice HO109.out; subst eo12))
  go_loopg [6, 33] k (fun kq v6 v33 w' => ∃ (x6_1 : List Int) (x33_1 : Int), v33 = .int .i64 x33_1 ∧ Aside0 (smf_Print.l0 kq x6_1 y107 (y107.length : Int) x33_1 a0_0 a0_1 l0_2 = some (r1, r2)) ∧ Aside0 (kq ≤ k) ∧ Aside0 (Kd.R (Kd.int .u8) 5 w' w.heap.size (fun _ => True) v6 x6_1 ∨ (MkRow w' w.heap.size v6 x6_1 ∧ x33_1 = 0)) ∧ Aside0 (Kd.R (Kd.int .i64) 3 w' w.heap.size (fun _ => True) (.slice Ao12 y107.length co12) y107) ∧ Aside0 (w'.heap[gb101]? = some (.cells #[.int .i64 a0_0, .int .i64 a0_1, (.slice A0_2 l0_2.length c0_2)] 24 (0, 0))) ∧ Aside0 (Below w.heap.size w w'))
  case atStart => exact ⟨(y104), (0), (by first | rfl | (simp; done) | (simp [*]; done)), H', ⟨Nat.le_refl _⟩, ⟨.inr ⟨(by repeat (first | exact HO106.out | refine MkRow.alloc ?_ _ | refine MkRow.drew ?_)), rfl⟩⟩, ⟨qR HO109.out⟩, ⟨bq BK101.out⟩, ⟨qS1 GE101 HB.out⟩⟩
  case round =>
    clear H'
    try clear c1
    try clear c2
    try clear p2
    try clear c3
    try clear c3b0
    try clear c3b1
    try clear hcz5_0
    try clear hcz5_1
    try clear hcz5_2
    try clear hcz9_0
    try clear hcz9_1
    try clear hcz9_2
    try clear hfz5_0
    try clear hfz5_1
    try clear hfz5_2
    try clear hfz9_0
    try clear hfz9_1
    try clear hfz9_2
    obtain ⟨x6_1, x33_1, rfl, HA, HK1, HO_6, HO_31, BK101, HB⟩ := hrel
    cases gk with
    | zero => exact absurd HA.out (by simp [smf_Print.l0])
    | succ k1 =>
      have H := HA.out
      clear HA
      simp only [smf_Print.l0] at H
      by_cases c13 : x33_1 < (y107.length : Int)
      · rw [if_pos c13] at H
        have c13b0 : decide (x33_1 < (y107.length : Int)) = true := decide_eq_true c13
        clear c13
        by_cases c14 : 0 ≤ x33_1
        rotate_left
        · rw [if_neg c14] at H
          exact absurd H (by simp)
        rw [if_pos c14] at H
        have c14b0 : decide (0 ≤ x33_1) = true := decide_eq_true c14
        clear c14
        by_cases c15 : x33_1 < (y107.length : Int)
        rotate_left
        · rw [if_neg c15] at H
          exact absurd H (by simp)
        rw [if_pos c15] at H
        have c15b0 : decide (x33_1 < (y107.length : Int)) = true := decide_eq_true c15
        clear c15
        obtain ⟨y111, hy111⟩ : ∃ y_ : List Int, y_ = (([((rd y107 x33_1) / 256) % 256, (rd y107 x33_1) % 256] : List Int)) := ⟨_, rfl⟩
        replace H : (if x6_1.length + y111.length < 140737488355328 then (smf_Print.l0 k1 (x6_1 ++ y111) y107 (y107.length : Int) (wrap64 (x33_1 + 1)) a0_0 a0_1 l0_2) else (none)) = some (r1, r2) := by first | (rw [hy111]; with_reducible exact H) | (have H2_ := (Option.bind_some _ _).symm.trans H; rw [hy111]; with_reducible exact H2_) | (have H2_ := (Option.bind_some _ _).symm.trans H; with_reducible exact H2_) | with_reducible exact H | (rw [hy111]; exact H) | exact H
        have Ny111 := Aside0.mk hy111
        clear hy111
        by_cases c16 : x6_1.length + y111.length < 140737488355328
        rotate_left
        · rw [if_neg c16] at H
          exact absurd H (by simp)
        rw [if_pos c16] at H
        have LMc16 := Aside0.mk c16
        clear c16
        obtain ⟨y114, hy114⟩ : ∃ y_ : List Int, y_ = (x6_1 ++ y111) := ⟨_, rfl⟩
        replace H : (smf_Print.l0 k1 y114 y107 (y107.length : Int) (wrap64 (x33_1 + 1)) a0_0 a0_1 l0_2) = some (r1, r2) := by first | (rw [hy114]; with_reducible exact H) | (have H2_ := (Option.bind_some _ _).symm.trans H; rw [hy114]; with_reducible exact H2_) | (have H2_ := (Option.bind_some _ _).symm.trans H; with_reducible exact H2_) | with_reducible exact H | (rw [hy114]; exact H) | exact H
        have Ny114 := Aside0.mk hy114
        clear hy114
        have H' := Aside0.mk H
        clear H
        have p110 : 0 ≤ (x33_1 : Int) := of_decide_eq_true (by first | (with_reducible assumption) | assumption)
        have q110 : x33_1 < (y107.length : Int) := of_decide_eq_true (by first | (with_reducible assumption) | assumption)
        obtain ⟨ad110, e110, hx110_0⟩ := Kd.at_int (Kd.R_reads' HO_31.out).2.2 x33_1 p110 q110
        cases e110
        replace p110 := eq_true p110
        replace q110 := eq_true q110
        rcases HO_6.out with hO6 | ⟨hM6, h33⟩
        · clear HO_6
          have HO_6 := Aside0.mk hO6
          clear hO6
          go_wp2_with (first | ((with_reducible refine gate_dst (N := 43) rfl ?_); refine Kd.R_lit (Kd.int .u8) _ 5 ?hg (N := 43) ?hd (xs := ([((rd y107 x33_1) / 256) % 256, (rd y107 x33_1) % 256] : List Int)) (inner := [.int .u8 (((rd y107 x33_1) / 256) % 256), .int .u8 ((rd y107 x33_1) % 256)]) (ok := fun _ => True) (okp := fun _ => True) ?hr ?hp (fun _ hk => hk) trivial (Below.refl _ _) (Nat.le_refl _) (by simp) ?_; (case hd => rfl); (case hg => rfl); (case hr => first | (go_simp; done) | (go_simp; rfl)); (case hp => exact (Reps.one (show Kd.M (Kd.int .u8) _ _ _ (((rd y107 x33_1) / 256) % 256) [.int .u8 (((rd y107 x33_1) / 256) % 256)] from rfl) (Reps.one (show Kd.M (Kd.int .u8) _ _ _ ((rd y107 x33_1) % 256) [.int .u8 ((rd y107 x33_1) % 256)] from rfl) (Reps.none _ _)))); intro v112 w17 ho18 hb hg_ hnew_; clear hg_ hnew_; (first | rw [← Ny111.out] at ho18 | (simp only [Int.reduceToNat] at ho18; rw [← Ny111.out] at ho18)); replace HO_31 := Aside0.mk (Kd.R_below (qR HO_31.out) hb); have HO113 := Aside0.mk (Kd.R_lower (Kd.R_new' ho18 (Kd.R_lt (qR HO_6.out))) (below_size (qS1 GE101 HB.out))); replace HO_6 := Aside0.mk (Kd.R_elder' (qR HO_6.out) (Kd.R_base ho18) hb); replace BK101 := Aside0.mk (blk_below (bq BK101.out) hb); replace HB := Aside0.mk (below_step (qS1 GE101 HB.out) hb); clear hb ho18; obtain ⟨Ao20, co20, eo20⟩ := Kd.R_slice HO113.out; subst eo20) | ((with_reducible refine gate_builtin (b := .append) (xs := #[.tmp 37, .tmp 43]) rfl ?_); at_builtin; refine Kd.R_append_rows (Kd.int .u8) (w0 := w) w.heap.size rfl (.tmp 37) (.tmp 43) 39 5 (.int .u8 0) 1 rfl Try.underlying39 info5 rfl (by decide) (by omega) u6 x6_1 y111 _ _ _ (fun k_ => some k_ ≠ (.slice Ao20 y111.length co20 : Value).ownBlock) (fun _ => False) rfl rfl ?aO ?aR (fun _ _ h => h) (fun _ h => h.elim) ?aF ?aB ?aS ?aL ?_; (case aR => repeat (first | exact (Kd.R_reads' HO113.out).2.2 | (with_reducible refine Kd.C_alloc ?_ _) | (with_reducible refine Kd.C_drewN ?_ _) | (with_reducible refine Kd.C_drew ?_))); (case aB => exact (qS1 GE101 HB.out)); (case aF => exact (fun k_ hk => Kd.fresh' (Kd.R_lt (qR HO113.out)) k_ hk)); (case aO => exact (by (with_reducible repeat (first | apply Kd.R_alloc | apply Kd.R_drewN | apply Kd.R_drew)); exact Kd.R_mono HO_6.out (fun _ hk => hk.2))); (case aS => exact (below_size (qS1 GE101 HB.out))); (case aL => have := LMc16.out; omega); intro v115 w19 ho hb hg hat; rw [← Ny114.out] at ho; replace HO_31 := Aside0.mk (Kd.R_over' (qR HO_31.out) (Kd.R_typed (qR HO_6.out)) (by decide) hg); replace BK101 := Aside0.mk (blk_grown (bq BK101.out) hg (Kd.R_ne HO_6.out BK101.out (by decide))); replace HO113 := Aside0.mk (Kd.R_after (ok := (fun _ => True)) (qR HO113.out) hg hat); replace HB := Aside0.mk (hb); have HO116 := Aside0.mk (ho); clear HO_6; clear ho hb hg hat))
          go_roundg k1
          case measure => have := HK1.out; omega
          case rel => exact ⟨(y114), (wrap64 (x33_1 + 1)), (by first | rfl | (simp; done) | (simp [*]; done)), H', ⟨by have := HK1.out; omega⟩, ⟨.inl (by (with_reducible repeat (first | apply Kd.R_alloc | apply Kd.R_drewN | apply Kd.R_drew)); exact Kd.R_mono HO116.out (fun _ hk => trivial))⟩, ⟨qR HO_31.out⟩, ⟨bq BK101.out⟩, ⟨qS1 GE101 HB.out⟩⟩
        clear HO_6 h33
        have HO_6 := Aside0.mk hM6
        clear hM6
        go_wp2_with (first | ((with_reducible refine gate_dst (N := 43) rfl ?_); refine Kd.R_lit (Kd.int .u8) _ 5 ?hg (N := 43) ?hd (xs := ([((rd y107 x33_1) / 256) % 256, (rd y107 x33_1) % 256] : List Int)) (inner := [.int .u8 (((rd y107 x33_1) / 256) % 256), .int .u8 ((rd y107 x33_1) % 256)]) (ok := fun _ => True) (okp := fun _ => True) ?hr ?hp (fun _ hk => hk) trivial (Below.refl _ _) (Nat.le_refl _) (by simp) ?_; (case hd => rfl); (case hg => rfl); (case hr => first | (go_simp; done) | (go_simp; rfl)); (case hp => exact (Reps.one (show Kd.M (Kd.int .u8) _ _ _ (((rd y107 x33_1) / 256) % 256) [.int .u8 (((rd y107 x33_1) / 256) % 256)] from rfl) (Reps.one (show Kd.M (Kd.int .u8) _ _ _ ((rd y107 x33_1) % 256) [.int .u8 ((rd y107 x33_1) % 256)] from rfl) (Reps.none _ _)))); intro v112 w17 ho18 hb hg_ hnew_; clear hg_ hnew_; (first | rw [← Ny111.out] at ho18 | (simp only [Int.reduceToNat] at ho18; rw [← Ny111.out] at ho18)); replace HO_6 := Aside0.mk (MkRow.below (by repeat (first | exact HO_6.out | refine MkRow.alloc ?_ _ | refine MkRow.drew ?_)) hb); replace HO_31 := Aside0.mk (Kd.R_below (qR HO_31.out) hb); have HO113 := Aside0.mk (Kd.R_lower ho18 (below_size (qS1 GE101 HB.out))); replace BK101 := Aside0.mk (blk_below (bq BK101.out) hb); replace HB := Aside0.mk (below_step (qS1 GE101 HB.out) hb); clear hb ho18; obtain ⟨Ao20, co20, eo20⟩ := Kd.R_slice HO113.out; subst eo20) | ((with_reducible refine gate_builtin (b := .append) (xs := #[.tmp 37, .tmp 43]) rfl ?_); at_builtin; refine mark_append (w0 := w) w.heap.size rfl (.tmp 37) (.tmp 43) 39 rfl Try.underlying39 info5 u6 x6_1 y111 _ _ _ w.heap.size (fun _ => True) rfl rfl ?aP ?aO ?aY ?aB ?aS ?aL ?_; (case aP => rw [Ny111.out]; simp); (case aO => exact (by repeat (first | exact HO_6.out | refine MkRow.alloc ?_ _ | refine MkRow.drew ?_))); (case aY => exact (qR HO113.out)); (case aB => exact (qS1 GE101 HB.out)); (case aS => exact (below_size (qS1 GE101 HB.out))); (case aL => have := LMc16.out; omega); intro v115 w19 ho hb hg hat; rw [← Ny114.out] at ho; have n0_ := Aside0.mk (Kd.R_grown (qR HO_31.out) hg (fun _ _ => by simp)); have n1_ := Aside0.mk (blk_grown (bq BK101.out) hg (by simp)); have n3_ := Aside0.mk (hb); have n4_ := Aside0.mk (ho); clear HO_31; clear BK101; clear HO113; clear HB; clear HO_6; have HO_31 := n0_; have BK101 := n1_; have HB := n3_; have HO116 := n4_; clear n0_ n1_ n3_ n4_; clear ho hb hg hat))
        go_roundg k1
        case measure => have := HK1.out; omega
        case rel => exact ⟨(y114), (wrap64 (x33_1 + 1)), (by first | rfl | (simp; done) | (simp [*]; done)), H', ⟨by have := HK1.out; omega⟩, ⟨.inl (by (with_reducible repeat (first | apply Kd.R_alloc | apply Kd.R_drewN | apply Kd.R_drew)); exact Kd.R_mono HO116.out (fun _ hk => trivial))⟩, ⟨qR HO_31.out⟩, ⟨bq BK101.out⟩, ⟨qS1 GE101 HB.out⟩⟩
      rw [if_neg c13] at H
      have hO6 := HO_6.out.resolve_right (fun h_ => c13 (by rw [h_.2, Ny107.out]; simp))
      clear HO_6
      have HO_6 := Aside0.mk hO6
      clear hO6
      have c13b0 : decide (x33_1 < (y107.length : Int)) = false := decide_eq_false c13
      clear c13
      have H' := Aside0.mk H
      clear H
      obtain ⟨hcz21_0, hcz21_1, hcz21_2, hfz21_0, hfz21_1, hfz21_2⟩ := blk3 BK101.out
      go_wp2
      go_loopg [6, 49] k1 (fun kq v6 v49 w' => ∃ (x6_2 : List Int) (x49_2 : Int), v49 = .int .i64 x49_2 ∧ Aside0 (smf_Print.l1 kq x6_2 l0_2 (l0_2.length : Int) x49_2 = some (r1, r2)) ∧ Aside0 (kq ≤ k1) ∧ Aside0 (Kd.R (Kd.int .u8) 5 w' w.heap.size (fun _ => True) v6 x6_2) ∧ Aside0 (w'.heap[gb101]? = some (.cells #[.int .i64 a0_0, .int .i64 a0_1, (.slice A0_2 l0_2.length c0_2)] 24 (0, 0))) ∧ Aside0 (Below w.heap.size w w'))
      case atStart => exact ⟨(x6_1), (0), (by first | rfl | (simp; done) | (simp [*]; done)), H', ⟨Nat.le_refl _⟩, ⟨qR HO_6.out⟩, ⟨bq BK101.out⟩, ⟨qS1 GE101 HB.out⟩⟩
      case round =>
        clear H'
        try clear c1
        try clear p1
        try clear q1
        try clear hx1
        try clear c2
        try clear p2
        try clear c3
        try clear c3b0
        try clear c3b1
        try clear p6
        try clear p11
        try clear q11
        try clear hx11
        try clear c13
        try clear c13b0
        try clear c14
        try clear c14b0
        try clear c15
        try clear c15b0
        try clear c16
        try clear hcz21_0
        try clear hcz21_1
        try clear hcz21_2
        try clear hcz5_0
        try clear hcz5_1
        try clear hcz5_2
        try clear hcz9_0
        try clear hcz9_1
        try clear hcz9_2
        try clear hfz21_0
        try clear hfz21_1
        try clear hfz21_2
        try clear hfz5_0
        try clear hfz5_1
        try clear hfz5_2
        try clear hfz9_0
        try clear hfz9_1
        try clear hfz9_2
        try clear hx110_0
        try clear p110
        try clear p2
        try clear q110
        obtain ⟨x6_2, x49_2, rfl, HA, HK2, HO_6, BK101, HB⟩ := hrel
        cases gk with
        | zero => exact absurd HA.out (by simp [smf_Print.l1])
        | succ k2 =>
          have H := HA.out
          clear HA
          simp only [smf_Print.l1] at H
          by_cases c22 : x49_2 < (l0_2.length : Int)
          rotate_left
          · rw [if_neg c22] at H
            have c22b0 : decide (x49_2 < (l0_2.length : Int)) = false := decide_eq_false c22
            clear c22
            by_cases c36 : (x6_2.length : Int) > 100000
            · rw [if_pos c36] at H
              have c36b0 : decide (100000 < (x6_2.length : Int)) = true := decide_eq_true c36
              have c36b1 : decide (100000 < x6_2.length) = true := decide_eq_true (by omega)
              clear c36
              simp only [Option.some.injEq, Prod.mk.injEq] at H
              obtain ⟨rfl, rfl⟩ := H
              obtain ⟨Ao37, co37, eo37⟩ := Kd.R_slice HO_6.out
              subst eo37
              go_wp2
              go_ret2
              exact ⟨by first | rfl | (simp [errW_none, errW_some] <;> rfl) | (simp [*, errW_none, errW_some] <;> rfl), qS1 GE101 HB.out⟩
            rw [if_neg c36] at H
            have c36b0 : decide (100000 < (x6_2.length : Int)) = false := decide_eq_false c36
            have c36b1 : decide (100000 < x6_2.length) = false := decide_eq_false (by omega)
            clear c36
            simp only [Option.some.injEq, Prod.mk.injEq] at H
            obtain ⟨rfl, rfl⟩ := H
            obtain ⟨Ao38, co38, eo38⟩ := Kd.R_slice HO_6.out
            subst eo38
            have hcv39 := own_string (P := Try.prog) Try.underlying39 Try.underlying5 Try.underlying9 (Kd.own_of_R HO_6.out)
            go_wp2
            go_ret2
            exact ⟨by first | rfl | (simp [errW_none, errW_some] <;> rfl) | (simp [*, errW_none, errW_some] <;> rfl), qS1 GE101 HB.out⟩
          rw [if_pos c22] at H
          have c22b0 : decide (x49_2 < (l0_2.length : Int)) = true := decide_eq_true c22
          clear c22
          by_cases c23 : 0 ≤ x49_2
          rotate_left
          · rw [if_neg c23] at H
            exact absurd H (by simp)
          rw [if_pos c23] at H
          have c23b0 : decide (0 ≤ x49_2) = true := decide_eq_true c23
          clear c23
          by_cases c24 : x49_2 < (l0_2.length : Int)
          rotate_left
          · rw [if_neg c24] at H
            exact absurd H (by simp)
          rw [if_pos c24] at H
          have c24b0 : decide (x49_2 < (l0_2.length : Int)) = true := decide_eq_true c24
          clear c24
          replace H := Option.bind_eq_some_iff.mp H
          obtain ⟨⟨t118, t119⟩, A250, H⟩ := H
          replace H : (if x6_2.length + 4 < 140737488355328 then ((some (x6_2 ++ bytesOf (⟨#[77, 84, 114, 107]⟩ : ByteArray) : List Int)).bind fun y120 => ((some (([((t118.size : Int) / 16777216) % 256, ((t118.size : Int) / 65536) % 256, ((t118.size : Int) / 256) % 256, ((t118.size : Int)) % 256] : List Int) : List Int)).bind fun y123 => (if y120.length + y123.length < 140737488355328 then ((some (y120 ++ y123 : List Int)).bind fun y126 => (if y126.length + t118.size < 140737488355328 then (smf_Print.l1 k2 (y126 ++ bytesOf t118) l0_2 (l0_2.length : Int) (wrap64 (x49_2 + 1))) else (none))) else (none)))) else (none)) = some (r1, r2) := H
          have A25 := Aside0.mk A250
          clear A250
          by_cases c26 : x6_2.length + 4 < 140737488355328
          rotate_left
          · rw [if_neg c26] at H
            exact absurd H (by simp)
          rw [if_pos c26] at H
          have LMc26 := Aside0.mk c26
          clear c26
          obtain ⟨y120, hy120⟩ : ∃ y_ : List Int, y_ = (x6_2 ++ bytesOf (⟨#[77, 84, 114, 107]⟩ : ByteArray)) := ⟨_, rfl⟩
          replace H : ((some (([((t118.size : Int) / 16777216) % 256, ((t118.size : Int) / 65536) % 256, ((t118.size : Int) / 256) % 256, ((t118.size : Int)) % 256] : List Int) : List Int)).bind fun y123 => (if y120.length + y123.length < 140737488355328 then ((some (y120 ++ y123 : List Int)).bind fun y126 => (if y126.length + t118.size < 140737488355328 then (smf_Print.l1 k2 (y126 ++ bytesOf t118) l0_2 (l0_2.length : Int) (wrap64 (x49_2 + 1))) else (none))) else (none))) = some (r1, r2) := by first | (rw [hy120]; with_reducible exact H) | (have H2_ := (Option.bind_some _ _).symm.trans H; rw [hy120]; with_reducible exact H2_) | (have H2_ := (Option.bind_some _ _).symm.trans H; with_reducible exact H2_) | with_reducible exact H | (rw [hy120]; exact H) | exact H
          have Ny120 := Aside0.mk hy120
          clear hy120
          obtain ⟨y123, hy123⟩ : ∃ y_ : List Int, y_ = (([((t118.size : Int) / 16777216) % 256, ((t118.size : Int) / 65536) % 256, ((t118.size : Int) / 256) % 256, ((t118.size : Int)) % 256] : List Int)) := ⟨_, rfl⟩
          replace H : (if y120.length + y123.length < 140737488355328 then ((some (y120 ++ y123 : List Int)).bind fun y126 => (if y126.length + t118.size < 140737488355328 then (smf_Print.l1 k2 (y126 ++ bytesOf t118) l0_2 (l0_2.length : Int) (wrap64 (x49_2 + 1))) else (none))) else (none)) = some (r1, r2) := by first | (rw [hy123]; with_reducible exact H) | (have H2_ := (Option.bind_some _ _).symm.trans H; rw [hy123]; with_reducible exact H2_) | (have H2_ := (Option.bind_some _ _).symm.trans H; with_reducible exact H2_) | with_reducible exact H | (rw [hy123]; exact H) | exact H
          have Ny123 := Aside0.mk hy123
          clear hy123
          by_cases c27 : y120.length + y123.length < 140737488355328
          rotate_left
          · rw [if_neg c27] at H
            exact absurd H (by simp)
          rw [if_pos c27] at H
          have LMc27 := Aside0.mk c27
          clear c27
          obtain ⟨y126, hy126⟩ : ∃ y_ : List Int, y_ = (y120 ++ y123) := ⟨_, rfl⟩
          replace H : (if y126.length + t118.size < 140737488355328 then (smf_Print.l1 k2 (y126 ++ bytesOf t118) l0_2 (l0_2.length : Int) (wrap64 (x49_2 + 1))) else (none)) = some (r1, r2) := by first | (rw [hy126]; with_reducible exact H) | (have H2_ := (Option.bind_some _ _).symm.trans H; rw [hy126]; with_reducible exact H2_) | (have H2_ := (Option.bind_some _ _).symm.trans H; with_reducible exact H2_) | with_reducible exact H | (rw [hy126]; exact H) | exact H
          have Ny126 := Aside0.mk hy126
          clear hy126
          by_cases c28 : y126.length + t118.size < 140737488355328
          rotate_left
          · rw [if_neg c28] at H
            exact absurd H (by simp)
          rw [if_pos c28] at H
          have LMc28 := Aside0.mk c28
          clear c28
          obtain ⟨y129, hy129⟩ : ∃ y_ : List Int, y_ = (y126 ++ bytesOf t118) := ⟨_, rfl⟩
          replace H : (smf_Print.l1 k2 y129 l0_2 (l0_2.length : Int) (wrap64 (x49_2 + 1))) = some (r1, r2) := by first | (rw [hy129]; with_reducible exact H) | (have H2_ := (Option.bind_some _ _).symm.trans H; rw [hy129]; with_reducible exact H2_) | (have H2_ := (Option.bind_some _ _).symm.trans H; with_reducible exact H2_) | with_reducible exact H | (rw [hy129]; exact H) | exact H
          have Ny129 := Aside0.mk hy129
          clear hy129
          have H' := Aside0.mk H
          clear H
          have p117 : 0 ≤ (x49_2 : Int) := of_decide_eq_true (by first | (with_reducible assumption) | assumption)
          have q117 : x49_2 < (l0_2.length : Int) := of_decide_eq_true (by first | (with_reducible assumption) | assumption)
          obtain ⟨ad117, A117_0, c117_0, e117, hx117_0, hl117_0, hi117_0⟩ := at_L3 HR0_2.out x49_2 p117 q117
          cases e117
          replace hx117_0 := (HB.out.cell (World.block_lt_of_cell? w _ hx117_0)).trans hx117_0
          have HR117_0 := Aside0.mk hi117_0
          have HC117_0 := Aside0.mk hl117_0
          clear hi117_0 hl117_0
          replace p117 := eq_true p117
          replace q117 := eq_true q117
          go_wp2_with (first | ((with_reducible refine gate_callee (f := 22) rfl ?_); refine goesL_ (some 55) rfl rfl Try.func22 (by kernel_rfl) rfl #[.slice A117_0 (rd_L3 l0_2 x49_2).length c117_0] rfl (by (try simp only [List.map_toArray, List.map_cons, List.map_nil]); first | done | rfl | (simp only [List.length_drop, List.length_take]; rfl)) ?_; (with_reducible refine (wire_Encode.calls k2 _ _ (rd_L3 l0_2 x49_2) t118 t119 _ ?side1 ?side2 A25.out).mono ?_); (case side1 => repeat (first | exact (Kd.C_below HR117_0.out HB.out) | (with_reducible refine Kd.C_alloc ?_ _) | (with_reducible refine Kd.C_drewN ?_ _) | (with_reducible refine Kd.C_drew ?_))); (case side2 => exact HC117_0.out); rintro e w29 ⟨rfl, hb⟩; refine ⟨_, rfl, ?_⟩; replace HO_6 := Aside0.mk (Kd.R_below (qR HO_6.out) hb); replace BK101 := Aside0.mk (blk_below (bq BK101.out) hb); replace HB := Aside0.mk (below_step (qS1 GE101 HB.out) hb); (try clear hb); (try clear hb2); (try clear hk); (try clear hi)) | (at_builtin; refine print_append_str (w0 := w) w.heap.size rfl (.tmp 60) _ 39 9 5 rfl Try.underlying39 Try.underlying9 info5 u6 x6_2 (⟨#[77, 84, 114, 107]⟩ : ByteArray) rfl rfl ?aO ?aB ?aS ?aL ?_; (case aB => exact (qS1 GE101 HB.out)); (case aO => exact (Kd.own_of_R (qR HO_6.out))); (case aS => exact (below_size (qS1 GE101 HB.out))); (case aL => have := LMc26.out; have h4_ : (⟨#[77, 84, 114, 107]⟩ : ByteArray).size = 4 := rfl; omega); intro v121 w30 ho0 hb hg; have ho := Kd.R_of_own (h1 := fun _ => rfl) (ok := fun _ => True) ho0 (fun _ _ => trivial); clear ho0; have hat := True.intro; rw [← Ny120.out] at ho; change Kd.R (Kd.int .u8) 5 w30 w.heap.size (fun _ => True) v121 y120 at ho; replace BK101 := Aside0.mk (blk_grown (bq BK101.out) hg (Kd.R_ne HO_6.out BK101.out (by decide))); replace HB := Aside0.mk (hb); have HO122 := Aside0.mk (ho); clear HO_6; clear ho hb hg hat) | ((with_reducible refine gate_dst (N := 73) rfl ?_); refine Kd.R_lit (Kd.int .u8) _ 5 ?hg (N := 73) ?hd (xs := ([((t118.size : Int) / 16777216) % 256, ((t118.size : Int) / 65536) % 256, ((t118.size : Int) / 256) % 256, ((t118.size : Int)) % 256] : List Int)) (inner := [.int .u8 (((t118.size : Int) / 16777216) % 256), .int .u8 (((t118.size : Int) / 65536) % 256), .int .u8 (((t118.size : Int) / 256) % 256), .int .u8 (((t118.size : Int)) % 256)]) (ok := fun _ => True) (okp := fun _ => True) ?hr ?hp (fun _ hk => hk) trivial (Below.refl _ _) (Nat.le_refl _) (by simp) ?_; (case hd => rfl); (case hg => rfl); (case hr => first | (go_simp; done) | (go_simp; rfl)); (case hp => exact (Reps.one (show Kd.M (Kd.int .u8) _ _ _ (((t118.size : Int) / 16777216) % 256) [.int .u8 (((t118.size : Int) / 16777216) % 256)] from rfl) (Reps.one (show Kd.M (Kd.int .u8) _ _ _ (((t118.size : Int) / 65536) % 256) [.int .u8 (((t118.size : Int) / 65536) % 256)] from rfl) (Reps.one (show Kd.M (Kd.int .u8) _ _ _ (((t118.size : Int) / 256) % 256) [.int .u8 (((t118.size : Int) / 256) % 256)] from rfl) (Reps.one (show Kd.M (Kd.int .u8) _ _ _ (((t118.size : Int)) % 256) [.int .u8 (((t118.size : Int)) % 256)] from rfl) (Reps.none _ _)))))); intro v124 w31 ho32 hb hg_ hnew_; clear hg_ hnew_; (first | rw [← Ny123.out] at ho32 | (simp only [Int.reduceToNat] at ho32; rw [← Ny123.out] at ho32)); have HO125 := Aside0.mk (Kd.R_lower (Kd.R_new' ho32 (Kd.R_lt (qR HO122.out))) (below_size (qS1 GE101 HB.out))); replace HO122 := Aside0.mk (Kd.R_elder' (qR HO122.out) (Kd.R_base ho32) hb); replace BK101 := Aside0.mk (blk_below (bq BK101.out) hb); replace HB := Aside0.mk (below_step (qS1 GE101 HB.out) hb); clear hb ho32; obtain ⟨Ao34, co34, eo34⟩ := Kd.R_slice HO125.out; subst eo34) | ((with_reducible refine gate_builtin (b := .append) (xs := #[.tmp 61, .tmp 73]) rfl ?_); at_builtin; refine Kd.R_append_rows (Kd.int .u8) (w0 := w) w.heap.size rfl (.tmp 61) (.tmp 73) 39 5 (.int .u8 0) 1 rfl Try.underlying39 info5 rfl (by decide) (by omega) v121 y120 y123 _ _ _ (fun k_ => some k_ ≠ (.slice Ao34 y123.length co34 : Value).ownBlock) (fun _ => False) rfl rfl ?aO ?aR (fun _ _ h => h) (fun _ h => h.elim) ?aF ?aB ?aS ?aL ?_; (case aR => repeat (first | exact (Kd.R_reads' HO125.out).2.2 | (with_reducible refine Kd.C_alloc ?_ _) | (with_reducible refine Kd.C_drewN ?_ _) | (with_reducible refine Kd.C_drew ?_))); (case aB => exact (qS1 GE101 HB.out)); (case aF => exact (fun k_ hk => Kd.fresh' (Kd.R_lt (qR HO125.out)) k_ hk)); (case aO => exact (by (with_reducible repeat (first | apply Kd.R_alloc | apply Kd.R_drewN | apply Kd.R_drew)); exact Kd.R_mono HO122.out (fun _ hk => hk.2))); (case aS => exact (below_size (qS1 GE101 HB.out))); (case aL => have := LMc27.out; omega); intro v127 w33 ho hb hg hat; rw [← Ny126.out] at ho; replace BK101 := Aside0.mk (blk_grown (bq BK101.out) hg (Kd.R_ne HO122.out BK101.out (by decide))); replace HO125 := Aside0.mk (Kd.R_after (ok := (fun _ => True)) (qR HO125.out) hg hat); replace HB := Aside0.mk (hb); have HO128 := Aside0.mk (ho); clear HO122; clear ho hb hg hat) | (at_builtin; refine print_append_str (w0 := w) w.heap.size rfl (.tmp 75) _ 39 9 5 rfl Try.underlying39 Try.underlying9 info5 v127 y126 t118 rfl rfl ?aO ?aB ?aS ?aL ?_; (case aB => exact (qS1 GE101 HB.out)); (case aO => exact (Kd.own_of_R (by (with_reducible repeat (first | apply Kd.R_alloc | apply Kd.R_drewN | apply Kd.R_drew)); exact Kd.R_mono HO128.out (fun _ hk => trivial)))); (case aS => exact (below_size (qS1 GE101 HB.out))); (case aL => have := LMc28.out; omega); intro v130 w35 ho0 hb hg; have ho := Kd.R_of_own (h1 := fun _ => rfl) (ok := fun _ => True) ho0 (fun _ _ => trivial); clear ho0; have hat := True.intro; rw [← Ny129.out] at ho; change Kd.R (Kd.int .u8) 5 w35 w.heap.size (fun _ => True) v130 y129 at ho; replace BK101 := Aside0.mk (blk_grown (bq BK101.out) hg (Kd.R_ne HO128.out BK101.out (by decide))); replace HB := Aside0.mk (hb); have HO131 := Aside0.mk (ho); clear HO128; clear ho hb hg hat))
          go_roundg k2
          case measure => have := HK1.out; have := HK2.out; omega
          case rel => exact ⟨(y129), (wrap64 (x49_2 + 1)), (by first | rfl | (simp; done) | (simp [*]; done)), H', ⟨by have := HK1.out; have := HK2.out; omega⟩, ⟨qR HO131.out⟩, ⟨bq BK101.out⟩, ⟨qS1 GE101 HB.out⟩⟩
end Go.Proofs.Ytdmnknhlibaaoaa.M
namespace Go.Proofs.Ytdmnknhlibaaoaa.Z
open Go.RowKit Go.Proofs.YtdmnknhlibaaoaaW.PrintWords Go.Proofs.YtdmnknhlibaaoaaW.PrintLast Go.Proofs.Ytdmnknhlibaaoaa.M
set_option linter.unusedVariables false
def two (n : Int) : List Int := [n / 256 % 256, n % 256]
def four (n : Int) : List Int := [n / 16777216 % 256, n / 65536 % 256, n / 256 % 256, n % 256]
def nameL : List Int := [77, 84, 104, 100, 0, 0, 0, 6]
def trkL : List Int := [77, 84, 114, 107]
def trkB (l : List Msg) : List Int := trkL ++ (four (enc 0 l).length ++ enc 0 l)
def trksB : List (List Msg) → List Int
  | [] => []
  | l :: r => trkB l ++ trksB r
def headB (f d : Int) (n : Nat) : List Int := nameL ++ (two f ++ (two n ++ two d))
def fileB (f d : Int) (ts : List (List Msg)) : List Int := headB f d ts.length ++ trksB ts
def totT : List (List Msg) → Nat
  | [] => 0
  | l :: r => tot l + 8 + totT r
theorem totT_mem : ∀ {ts : List (List Msg)} {l : List Msg}, l ∈ ts → tot l ≤ totT ts
  | l :: r, x, h => by
    rw [totT]
    rcases List.mem_cons.1 h with rfl | h
    · omega
    · have := totT_mem h; omega
theorem trkB_len (l : List Msg) : (trkB l).length = (enc 0 l).length + 8 := by
  unfold trkB trkL four
  simp only [List.length_append, List.length_cons, List.length_nil]
  omega
theorem trksB_len : ∀ ts : List (List Msg), (trksB ts).length ≤ totT ts
  | [] => Nat.le_refl _
  | l :: r => by
    rw [trksB, totT, List.length_append, trkB_len]
    have := enc_tot l 0
    have := trksB_len r
    omega
theorem headB_len (f d : Int) (n : Nat) : (headB f d n).length = 14 := rfl
theorem four_bytes (n : Int) : Bytes (four n) := by
  unfold four
  exact .cons (by omega) (by omega) (.cons (by omega) (by omega) (.cons (by omega) (by omega) (.cons (by omega) (by omega) .nil)))
theorem two_bytes (n : Int) : Bytes (two n) := by
  unfold two
  exact .cons (by omega) (by omega) (.cons (by omega) (by omega) .nil)
theorem trkL_bytes : Bytes trkL := by
  unfold trkL
  intro x hx
  simp only [List.mem_cons, List.not_mem_nil, or_false] at hx
  omega
theorem nameL_bytes : Bytes nameL := by
  unfold nameL
  intro x hx
  simp only [List.mem_cons, List.not_mem_nil, or_false] at hx
  omega
theorem trkB_bytes {l : List Msg} (h : Rights l) : Bytes (trkB l) := trkL_bytes.append ((four_bytes _).append (enc_bytes h))
theorem trksB_bytes : ∀ {ts : List (List Msg)}, (∀ l ∈ ts, Rights l) → Bytes (trksB ts)
  | [], _ => .nil
  | l :: r, h => (trkB_bytes (h l (by simp))).append (trksB_bytes (fun x hx => h x (by simp [hx])))
theorem headB_bytes (f d : Int) (n : Nat) : Bytes (headB f d n) := nameL_bytes.append ((two_bytes _).append ((two_bytes _).append (two_bytes _)))
theorem fileB_bytes {f d : Int} {ts : List (List Msg)} (h : ∀ l ∈ ts, Rights l) : Bytes (fileB f d ts) := (headB_bytes _ _ _).append (trksB_bytes h)
def fin (o : List Int) : ByteArray × Int := if (o.length : Int) > 100000 then (⟨#[]⟩, 160) else (strOfNums o, 0)
theorem print_l1 (ts : List (List Msg)) (hl : ts.length ≤ 1000000000) (hr : ∀ l ∈ ts, Rights l ∧ tot l ≤ 1000000000) : ∀ (j i : Nat) (out : List Int), i + j = ts.length → out.length + totT (ts.drop i) ≤ 2000000000 →
    Ev (fun k => smf_Print.l1 k out ts (ts.length : Int) (i : Int)) (fin (out ++ trksB (ts.drop i)))
  | 0, i, out, hj, ho => by
    refine Ev.step (fun k => by rw [smf_Print.l1]) ?_
    refine Ev.no (by omega) ?_
    rw [List.drop_eq_nil_of_le (by omega), trksB, List.append_nil]
    unfold fin
    by_cases c : (out.length : Int) > 100000
    · exact Ev.yes c (Ev.ok (Ev.now _) (by rw [if_pos c]))
    · exact Ev.no c (Ev.ok (Ev.now _) (by rw [if_neg c]))
  | j + 1, i, out, hj, ho => by
    have hm := rdL_mem ts i (by omega)
    have hd := rdL_drop ts i (by omega)
    rw [hd, totT] at ho
    generalize hlt : rd_L3 ts (i : Int) = l at *
    obtain ⟨h1, h2⟩ := hr l hm
    have hen := enc_tot l 0
    have hsz : (strOfNums (enc 0 l)).size = (enc 0 l).length := str_size _
    have hb : bytesOf (strOfNums (enc 0 l)) = enc 0 l := bytesOf_str (enc_bytes h1)
    have e1 : wrap64 ((i : Int) + 1) = ((i + 1 : Nat) : Int) := by rw [w64 (by omega) (by omega)]; omega
    refine Ev.step (fun k => by rw [smf_Print.l1]) ?_
    refine Ev.yes (by omega) (Ev.yes (by omega) (Ev.yes (by omega) ?_))
    rw [hlt]
    refine Ev.bind (encode_ok h1 h2) ?_
    dsimp only
    refine Ev.yes (by omega) (Ev.bind (Ev.now _) (Ev.bind (Ev.now _) ?_))
    have hy : bytesOf (⟨#[77, 84, 114, 107]⟩ : ByteArray) = trkL := rfl
    rw [hy, hsz]
    have hlen : trkL.length = 4 := rfl
    refine Ev.yes (by rw [List.length_append, hlen]; simp only [List.length_cons, List.length_nil]; omega) (Ev.bind (Ev.now _) (Ev.yes ?_ ?_))
    · rw [List.length_append, List.length_append, hlen]; simp only [List.length_cons, List.length_nil]; omega
    · rw [hb, e1, hd, trksB]
      have ih := print_l1 ts hl hr j (i + 1) (out ++ trkB l) (by omega) (by rw [List.length_append, trkB_len]; omega)
      have e2 : out ++ trkL ++ [((enc 0 l).length : Int) / 16777216 % 256, ((enc 0 l).length : Int) / 65536 % 256, ((enc 0 l).length : Int) / 256 % 256, ((enc 0 l).length : Int) % 256] ++ enc 0 l = out ++ trkB l := by
        unfold trkB four
        simp only [List.append_assoc]
      rw [e2]
      rw [List.append_assoc] at ih
      exact ih
theorem print_ev (f d : Int) (ts : List (List Msg)) (hs : Small ts) (ht : totT ts ≤ 1000000000) :
    Ev (fun k => smf_Print.f k f d ts) (if (checkM f d ts).2 = 0 then fin (fileB f d ts) else (⟨#[]⟩, (checkM f d ts).2)) := by
  refine Ev.bind (check_ev f d ts hs) ?_
  by_cases c : (checkM f d ts).2 = 0
  · rw [if_pos c]
    refine Ev.yes c (Ev.bind (Ev.now _) ?_)
    have hr : ∀ l ∈ ts, Rights l ∧ tot l ≤ 1000000000 := by
      intro l hl
      have h2 : (checkL ts 0).2 = 0 := by
        unfold checkM at c
        split at c
        · cases c
        · exact c
      exact ⟨(checkL_e h2 l hl).1, Nat.le_trans (totT_mem hl) ht⟩
    have hlen : ([f, (ts.length : Int), d] : List Int).length = 3 := rfl
    rw [hlen]
    refine Ev.step (fun k => by rw [smf_Print.l0]) ?_
    refine Ev.yes (by decide) (Ev.yes (by decide) (Ev.yes (by simp) (Ev.bind (Ev.now _) (Ev.yes (by simp) ?_))))
    rw [show wrap64 ((0 : Int) + 1) = 1 from by rw [w64 (by decide) (by decide)]; rfl]
    refine Ev.step (fun k => by rw [smf_Print.l0]) ?_
    refine Ev.yes (by decide) (Ev.yes (by decide) (Ev.yes (by simp) (Ev.bind (Ev.now _) (Ev.yes (by simp) ?_))))
    rw [show wrap64 ((1 : Int) + 1) = 2 from by rw [w64 (by decide) (by decide)]; rfl]
    refine Ev.step (fun k => by rw [smf_Print.l0]) ?_
    refine Ev.yes (by decide) (Ev.yes (by decide) (Ev.yes (by simp) (Ev.bind (Ev.now _) (Ev.yes (by simp) ?_))))
    rw [show wrap64 ((2 : Int) + 1) = 3 from by rw [w64 (by decide) (by decide)]; rfl]
    refine Ev.step (fun k => by rw [smf_Print.l0]) ?_
    refine Ev.no (by decide) ?_
    have h := print_l1 ts hs.1 hr ts.length 0 (headB f d ts.length) (by omega) (by rw [headB_len, List.drop_zero]; omega)
    rw [List.drop_zero] at h
    exact h
  · rw [if_neg c]
    exact Ev.no c (Ev.now _)
end Go.Proofs.Ytdmnknhlibaaoaa.Z
namespace Go.Proofs.Ytdmnknhlibaaoaa.Z
open Go.RowKit Go.Proofs.YtdmnknhlibaaoaaW.PrintWords Go.Proofs.Ytdmnknhlibaaoaa.M
def I64 (x : Int) : Prop := -9223372036854775808 ≤ x ∧ x ≤ 9223372036854775807
def Raw (m : Msg) : Prop := I64 m.f0 ∧ I64 m.f1 ∧ I64 m.f2 ∧ I64 m.f3 ∧ I64 m.f4
def Raws (ts : List (List Msg)) : Prop := ∀ l ∈ ts, ∀ m ∈ l, Raw m
def GM (m : Msg) : Prop := Right m ∧ isEnd m = false ∧ m.f5.size ≤ 200
def endM (d : Int) : Msg := ⟨d, 16, 0, 47, 0, ⟨#[]⟩⟩
def GT (l : List Msg) : Prop := ∃ a : List Msg, l = a ++ [endM (a.length : Int)] ∧ a.length ≤ 12 ∧ ∀ m ∈ a, GM m
def GF (f d : Int) (ts : List (List Msg)) : Prop := (f = 0 ∨ f = 1) ∧ 1 ≤ d ∧ d ≤ 32767 ∧ 1 ≤ ts.length ∧ ts.length ≤ 5 ∧ (f = 0 → ts.length = 1) ∧ ∀ l ∈ ts, GT l
end Go.Proofs.Ytdmnknhlibaaoaa.Z
namespace Go.Proofs.Ytdmnknhlibaaoaa.M
open Go.RowKit Go.Proofs.YtdmnknhlibaaoaaW.PrintWords Go.Proofs.YtdmnknhlibaaoaaW.PrintLast Go.Proofs.YtdmnknhlibaaoaaW.PrintMore
attribute [local go_sem] max2_int min2_int max_two min_two max_three min_three max_four min_four
set_option linter.unusedVariables false
set_option linter.unusedSimpArgs false
def partitalaw16_End.f (a0 : Int) : Option (Int × Int × Int × Int × Int × ByteArray) := some (a0, 16, 0, 47, 0, (⟨#[]⟩ : ByteArray))
set_option maxHeartbeats 8000000 in
set_option maxRecDepth 100000 in
theorem partitalaw16_End.calls (a0 : Int) (r1 : Int) (r2 : Int) (r3 : Int) (r4 : Int) (r5 : Int) (r6 : ByteArray) (w : World) (h : partitalaw16_End.f a0 = some (r1, r2, r3, r4, r5, r6)) :
    Calls Try.prog 13 #[.int .i64 a0] w fun e w' => e = .returned (.agg #[.int .i64 r1, .int .i64 r2, .int .i64 r3, .int .i64 r4, .int .i64 r5, .string r6]) ∧ Below w.heap.size w w' := by
  have hu28 := Try.underlying28
  have HB := Aside0.mk (Below.refl w.heap.size w)
  have H : (some (a0, 16, 0, 47, 0, (⟨#[]⟩ : ByteArray))) = some (r1, r2, r3, r4, r5, r6) := h
  clear h
  simp only [Option.some.injEq, Prod.mk.injEq] at H
  obtain ⟨rfl, rfl, rfl, rfl, rfl, rfl⟩ := H
  go_enter Try.func13, Try.ntmps13
  go_wp2_with (first | ((with_reducible refine gate_dst (N := 2) rfl ?_); refine box_event ?hg (N := 2) ?hd (cs := #[.int .i64 0, .int .i64 0, .int .i64 0, .int .i64 0, .int .i64 0, .string (⟨#[]⟩ : ByteArray)]) (t := 28) ?hr ?_; (case hd => rfl); (case hg => rfl); (case hr => first | (go_simp; done) | (go_simp; rfl)); intro gb101 hg w2 hbox hb; have BK101 := Aside0.mk (hbox); have GW101 := Aside0.mk ((by rw [hg]; exact (below_size (qB HB.out)) : w.heap.size ≤ gb101)); have GE101 := Aside0.mk ((by rw [hg]; exact (below_size (qB HB.out)) : w.heap.size ≤ gb101)); replace HB := Aside0.mk (below_step (qB HB.out) hb); clear hb hbox hg; obtain ⟨hcz3_0, hcz3_1, hcz3_2, hcz3_3, hcz3_4, hcz3_5, hfz3_0, hfz3_1, hfz3_2, hfz3_3, hfz3_4, hfz3_5⟩ := blk6 BK101.out))
  refine bodyPost_ret (results_cell_row rfl _ _ gb101 28 #[.int .i64 a0, .int .i64 16, .int .i64 0, .int .i64 47, .int .i64 0, .string (⟨#[]⟩ : ByteArray)] (0, 0) _ rfl (by refine bq ?_; refine blk_put (cs := #[.int .i64 a0, .int .i64 16, .int .i64 0, .int .i64 47, .int .i64 0, .string (⟨#[]⟩ : ByteArray)]) ?_ 5 _ rfl; refine bq ?_; refine blk_put (cs := #[.int .i64 a0, .int .i64 16, .int .i64 0, .int .i64 47, .int .i64 0, .string (⟨#[]⟩ : ByteArray)]) ?_ 4 _ rfl; refine bq ?_; refine blk_put (cs := #[.int .i64 a0, .int .i64 16, .int .i64 0, .int .i64 0, .int .i64 0, .string (⟨#[]⟩ : ByteArray)]) ?_ 3 _ rfl; refine bq ?_; refine blk_put (cs := #[.int .i64 a0, .int .i64 16, .int .i64 0, .int .i64 0, .int .i64 0, .string (⟨#[]⟩ : ByteArray)]) ?_ 2 _ rfl; refine bq ?_; refine blk_put (cs := #[.int .i64 a0, .int .i64 0, .int .i64 0, .int .i64 0, .int .i64 0, .string (⟨#[]⟩ : ByteArray)]) ?_ 1 _ rfl; refine bq ?_; refine blk_put (cs := #[.int .i64 0, .int .i64 0, .int .i64 0, .int .i64 0, .int .i64 0, .string (⟨#[]⟩ : ByteArray)]) ?_ 0 _ rfl; exact bq BK101.out) Try.underlying28 rfl (by kernel_rfl)) rfl ?_
  exact ⟨by first | rfl | (simp [errW_none, errW_some] <;> rfl) | (simp [*, errW_none, errW_some] <;> rfl), qS1 GE101 HB.out⟩
end Go.Proofs.Ytdmnknhlibaaoaa.M
namespace Go.Proofs.Ytdmnknhlibaaoaa.M
open Go.RowKit Go.Proofs.YtdmnknhlibaaoaaW.PrintWords Go.Proofs.YtdmnknhlibaaoaaW.PrintLast Go.Proofs.YtdmnknhlibaaoaaW.PrintMore
attribute [local go_sem] max2_int min2_int max_two min_two max_three min_three max_four min_four
set_option linter.unusedVariables false
set_option linter.unusedSimpArgs false
def partitalaw16_pick.f (a0 : Int) (a1 : Int) : Option (Int) := if a0 < 0 then (if a1 = 0 then (none) else (some (Int.tmod (wrap64 (-(wrap64 (a0 + 1)))) a1))) else (if a1 = 0 then (none) else (some (Int.tmod a0 a1)))
set_option maxHeartbeats 8000000 in
set_option maxRecDepth 100000 in
theorem partitalaw16_pick.calls (a0 : Int) (a1 : Int) (r : Int) (w : World) (h : partitalaw16_pick.f a0 a1 = some r) :
    Calls Try.prog 19 #[.int .i64 a0, .int .i64 a1] w fun e w' => e = .returned (.int .i64 r) ∧ Drawn0 w w' := by
  have H : (if a0 < 0 then (if a1 = 0 then (none) else (some (Int.tmod (wrap64 (-(wrap64 (a0 + 1)))) a1))) else (if a1 = 0 then (none) else (some (Int.tmod a0 a1)))) = some r := h
  clear h
  by_cases c3 : a0 < 0
  · rw [if_pos c3] at H
    have c3b0 : decide (a0 < 0) = true := decide_eq_true c3
    clear c3
    by_cases c4 : a1 = 0
    · rw [if_pos c4] at H
      exact absurd H (by simp)
    rw [if_neg c4] at H
    have c4b0 : (a1 == 0) = false := beq_eq_false_iff_ne.mpr c4
    have c4b1 : (a1 != 0) = true := bne_iff_ne.mpr c4
    obtain rfl := Option.some.inj H
    go_enter Try.func19, Try.ntmps19
    go_wp2
    go_ret
    exact ⟨by first | rfl | (simp; done) | (simp [*]; done), by repeat (first | exact Drawn0.refl _ | apply Drawn0.step)⟩
  rw [if_neg c3] at H
  have c3b0 : decide (a0 < 0) = false := decide_eq_false c3
  clear c3
  by_cases c5 : a1 = 0
  · rw [if_pos c5] at H
    exact absurd H (by simp)
  rw [if_neg c5] at H
  have c5b0 : (a1 == 0) = false := beq_eq_false_iff_ne.mpr c5
  have c5b1 : (a1 != 0) = true := bne_iff_ne.mpr c5
  obtain rfl := Option.some.inj H
  go_enter Try.func19, Try.ntmps19
  go_wp2
  go_ret
  exact ⟨by first | rfl | (simp; done) | (simp [*]; done), by repeat (first | exact Drawn0.refl _ | apply Drawn0.step)⟩
end Go.Proofs.Ytdmnknhlibaaoaa.M
