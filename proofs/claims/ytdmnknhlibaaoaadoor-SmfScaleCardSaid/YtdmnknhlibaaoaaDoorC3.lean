/- Functions and contracts printed by a program of this session (wip/tools), and texts by hand: Print, Parse, and the plain answers (part 3). -/
import Derived.Defers
import Derived.Recover
import Derived.Laws.Cover3
import Derived.Test.YtdmnknhlibaaoaaDoorCW
import Derived.Test.YtdmnknhlibaaoaaDoorC1
import Derived.Test.YtdmnknhlibaaoaaDoorC2
namespace Go.Proofs.YtdmnknhlibaaoaaDoor.M
open Go.RowKit Go.Proofs.YtdmnknhlibaaoaaDoorW.PrintWords Go.Proofs.YtdmnknhlibaaoaaDoorW.PrintLast Go.Proofs.YtdmnknhlibaaoaaDoorW.PrintMore
attribute [local go_sem] max2_int min2_int max_two min_two max_three min_three max_four min_four
set_option linter.unusedVariables false
set_option linter.unusedSimpArgs false
mutual
def wire_ReadVlq.j0 : Nat → ByteArray → Int → Bool → Option (Int × Int × Int)
  | 0, _, _, _ => none
  | k + 1, x0, x1, x17 => if x17 = true then (some (0, 0, 2)) else (wire_ReadVlq.l0 k x0 x1 0 0)
def wire_ReadVlq.l0 : Nat → ByteArray → Int → Int → Int → Option (Int × Int × Int)
  | 0, _, _, _, _ => none
  | k + 1, x0, x1, x7, x18 => if x18 < 4 then (if (wrap64 (x1 + x18)) ≥ (x0.size : Int) then (some (0, 0, 152)) else (if 0 ≤ (wrap64 (x1 + x18)) then (if (wrap64 (x1 + x18)) < (x0.size : Int) then (if (wrap64 (bt x0 (wrap64 (x1 + x18)))) < 128 then (some (wrap64 ((wrap64 (x7 * 128)) + (Int.tmod (wrap64 (bt x0 (wrap64 (x1 + x18)))) 128)), wrap64 ((wrap64 (x1 + x18)) + 1), 0)) else (wire_ReadVlq.l0 k x0 x1 (wrap64 ((wrap64 (x7 * 128)) + (Int.tmod (wrap64 (bt x0 (wrap64 (x1 + x18)))) 128))) (wrap64 (x18 + 1)))) else (none)) else (none))) else (some (0, 0, 150))
end
def wire_ReadVlq.f (k : Nat) (a0 : ByteArray) (a1 : Int) : Option (Int × Int × Int) := if a1 < 0 then (wire_ReadVlq.j0 k a0 a1 true) else (wire_ReadVlq.j0 k a0 a1 (decide (a1 > (a0.size : Int))))
theorem wire_ReadVlq.mono_l : ∀ k, (∀ y0 y1 y2, LeO (wire_ReadVlq.j0 k y0 y1 y2) (wire_ReadVlq.j0 (k + 1) y0 y1 y2)) ∧ (∀ y0 y1 y2 y3, LeO (wire_ReadVlq.l0 k y0 y1 y2 y3) (wire_ReadVlq.l0 (k + 1) y0 y1 y2 y3))
  | 0 => ⟨fun _ _ _ r h => by simp [wire_ReadVlq.j0] at h, fun _ _ _ _ r h => by simp [wire_ReadVlq.l0] at h⟩
  | k + 1 => by
    obtain ⟨ih0, ih1⟩ := wire_ReadVlq.mono_l k
    refine ⟨?_, ?_⟩
    · intro y0 y1 y2
      unfold wire_ReadVlq.j0
      repeat' first
      | (with_reducible exact ih0 _ _ _)
      | (with_reducible exact ih1 _ _ _ _)
      | (with_reducible exact LeO.refl _)
      | (with_reducible exact LeO.none _)
      | (with_reducible refine LeO.ite ?_ ?_)
      | (with_reducible refine LeO.bind ?_ (fun _ => ?_))
      | exact ih0 _ _ _
      | exact ih1 _ _ _ _
      | exact LeO.none _
      | refine LeO.ite ?_ ?_
      | refine LeO.bind ?_ (fun _ => ?_)
    · intro y0 y1 y2 y3
      unfold wire_ReadVlq.l0
      repeat' first
      | (with_reducible exact ih0 _ _ _)
      | (with_reducible exact ih1 _ _ _ _)
      | (with_reducible exact LeO.refl _)
      | (with_reducible exact LeO.none _)
      | (with_reducible refine LeO.ite ?_ ?_)
      | (with_reducible refine LeO.bind ?_ (fun _ => ?_))
      | exact ih0 _ _ _
      | exact ih1 _ _ _ _
      | exact LeO.none _
      | refine LeO.ite ?_ ?_
      | refine LeO.bind ?_ (fun _ => ?_)
theorem wire_ReadVlq.mono : ∀ a0 a1 k, LeO (wire_ReadVlq.f k a0 a1) (wire_ReadVlq.f (k + 1) a0 a1) := by
  intro a0 a1 k
  obtain ⟨ih0, ih1⟩ := wire_ReadVlq.mono_l k
  unfold wire_ReadVlq.f
  repeat' first
      | (with_reducible exact ih0 _ _ _)
      | (with_reducible exact ih1 _ _ _ _)
      | (with_reducible exact LeO.refl _)
      | (with_reducible exact LeO.none _)
      | (with_reducible refine LeO.ite ?_ ?_)
      | (with_reducible refine LeO.bind ?_ (fun _ => ?_))
      | exact ih0 _ _ _
      | exact ih1 _ _ _ _
      | exact LeO.none _
      | refine LeO.ite ?_ ?_
      | refine LeO.bind ?_ (fun _ => ?_)
set_option maxHeartbeats 8000000 in
set_option maxRecDepth 100000 in
theorem wire_ReadVlq.calls (k : Nat) (a0 : ByteArray) (a1 : Int) (r1 : Int) (r2 : Int) (r3 : Int) (w : World) (h : wire_ReadVlq.f k a0 a1 = some (r1, r2, r3)) :
    Calls Tryd.prog 54 #[.string a0, .int .i64 a1] w fun e w' => e = .returned (.tuple #[.int .i64 r1, .int .i64 r2, .int .i64 r3]) ∧ Drawn0 w w' := by
  have H := h
  unfold wire_ReadVlq.f at H
  clear h
  have HC3 := Aside0.mk H
  clear H
  go_enter Tryd.func54, Tryd.ntmps54
  go_upto_region 1 with (fail)
  go_cut [17] (fun v17 wc => ∃ (kq : Nat) (x17_2 : Bool), v17 = .bool x17_2 ∧ Aside0 (wire_ReadVlq.j0 kq a0 a1 x17_2 = some (r1, r2, r3)) ∧ Aside0 (kq ≤ k) ∧ Drawn0 w wc)
  case first =>
    have H := HC3.out
    clear HC3
    by_cases c4 : a1 < 0
    · rw [if_pos c4] at H
      have c4b0 : decide (a1 < 0) = true := decide_eq_true c4
      clear c4
      (first | rw [c4b0] | (simp only [i64_w, i32_w]; rw [c4b0]) | skip)
      have H' := Aside0.mk H
      clear H
      go_wp2
      go_meet
      case rel => exact ⟨_, (true), qq6, H', ⟨qql⟩, qq9⟩
    rw [if_neg c4] at H
    have c4b0 : decide (a1 < 0) = false := decide_eq_false c4
    clear c4
    (first | rw [c4b0] | (simp only [i64_w, i32_w]; rw [c4b0]) | skip)
    have H' := Aside0.mk H
    clear H
    go_wp2
    go_meet
    case rel => exact ⟨_, (decide (a1 > (a0.size : Int))), qq6, H', ⟨qql⟩, qq9⟩
  case rest =>
    clear HC3
    try clear p2
    try clear c4
    try clear c4b0
    obtain ⟨kq, x17_2, rfl, HA, HJ2, ⟨mc2, rfl⟩⟩ := hcut
    cases kq with
    | zero => exact absurd HA.out (by simp [wire_ReadVlq.j0])
    | succ kj2 =>
      have H := HA.out
      clear HA
      simp only [wire_ReadVlq.j0] at H
      by_cases c5 : x17_2 = true
      · subst c5
        have H1 : (some (0, 0, 2)) = some (r1, r2, r3) := by rw [if_pos rfl] at H; exact H
        clear H
        have H := H1
        clear H1
        simp only [Option.some.injEq, Prod.mk.injEq] at H
        obtain ⟨rfl, rfl, rfl⟩ := H
        go_wp2
        go_ret3
        exact ⟨qq6, qq9⟩
      replace c5 := Bool.eq_false_iff.mpr c5
      subst c5
      have H1 : (wire_ReadVlq.l0 kj2 a0 a1 0 0) = some (r1, r2, r3) := by rw [if_neg (show ¬ (false = true) by decide)] at H; exact H
      clear H
      have H := H1
      clear H1
      have H' := Aside0.mk H
      clear H
      go_wp2
      go_loopg [7, 18] kj2 (fun kq v7 v18 w' => ∃ (x7_2 : Int) (x18_2 : Int), v7 = .int .i64 x7_2 ∧ v18 = .int .i64 x18_2 ∧ Aside0 (wire_ReadVlq.l0 kq a0 a1 x7_2 x18_2 = some (r1, r2, r3)) ∧ Aside0 (kq ≤ kj2) ∧ Drawn0 w w')
      case atStart => exact ⟨(0), (0), qq6, qq6, H', ⟨Nat.le_refl _⟩, qq9⟩
      case round =>
        clear H'
        try clear c2
        try clear p2
        try clear c4
        try clear c4b0
        try clear c5
        try clear p2
        obtain ⟨x7_2, x18_2, rfl, rfl, HA, HK2, ⟨m2, rfl⟩⟩ := hrel
        cases gk with
        | zero => exact absurd HA.out (by simp [wire_ReadVlq.l0])
        | succ k2 =>
          have H := HA.out
          clear HA
          simp only [wire_ReadVlq.l0] at H
          by_cases c6 : x18_2 < 4
          rotate_left
          · rw [if_neg c6] at H
            have c6b0 : decide (x18_2 < 4) = false := decide_eq_false c6
            clear c6
            simp only [Option.some.injEq, Prod.mk.injEq] at H
            obtain ⟨rfl, rfl, rfl⟩ := H
            go_wp2
            go_ret3
            exact ⟨qq6, qq9⟩
          rw [if_pos c6] at H
          have c6b0 : decide (x18_2 < 4) = true := decide_eq_true c6
          clear c6
          by_cases c7 : (wrap64 (a1 + x18_2)) ≥ (a0.size : Int)
          · rw [if_pos c7] at H
            have c7b0 : decide ((a0.size : Int) ≤ (wrap64 (a1 + x18_2))) = true := decide_eq_true c7
            clear c7
            simp only [Option.some.injEq, Prod.mk.injEq] at H
            obtain ⟨rfl, rfl, rfl⟩ := H
            go_wp2
            go_ret3
            exact ⟨qq6, qq9⟩
          rw [if_neg c7] at H
          have c7b0 : decide ((a0.size : Int) ≤ (wrap64 (a1 + x18_2))) = false := decide_eq_false c7
          clear c7
          obtain ⟨ji8, hji8⟩ : ∃ j_ : Int, (wrap64 (a1 + x18_2)) = j_ := ⟨_, rfl⟩
          replace H : (if 0 ≤ (ji8) then (if (ji8) < (a0.size : Int) then (if (wrap64 (bt a0 (ji8))) < 128 then (some (wrap64 ((wrap64 (x7_2 * 128)) + (Int.tmod (wrap64 (bt a0 (ji8))) 128)), wrap64 ((ji8) + 1), 0)) else (wire_ReadVlq.l0 k2 a0 a1 (wrap64 ((wrap64 (x7_2 * 128)) + (Int.tmod (wrap64 (bt a0 (ji8))) 128))) (wrap64 (x18_2 + 1)))) else (none)) else (none)) = some (r1, r2, r3) := by first | (rw [hji8] at H; exact H) | (simp only [hji8] at H ⊢; exact H)
          (try rw [hji8] at c7b0)
          have hji8w : (IntKind.i64.wrap (a1 + x18_2)) = ji8 := (i64_w _).trans hji8
          by_cases c9 : 0 ≤ (ji8)
          rotate_left
          · rw [if_neg c9] at H
            exact absurd H (by simp)
          rw [if_pos c9] at H
          have c9b0 : decide (0 ≤ (ji8)) = true := decide_eq_true c9
          clear c9
          by_cases c10 : (ji8) < (a0.size : Int)
          rotate_left
          · rw [if_neg c10] at H
            exact absurd H (by simp)
          rw [if_pos c10] at H
          have c10b0 : decide ((ji8) < (a0.size : Int)) = true := decide_eq_true c10
          clear c10
          by_cases c12 : (wrap64 (bt a0 (ji8))) < 128
          · rw [if_pos c12] at H
            have c12b0 : decide ((wrap64 (bt a0 (ji8))) < 128) = true := decide_eq_true c12
            clear c12
            simp only [Option.some.injEq, Prod.mk.injEq] at H
            obtain ⟨rfl, rfl, rfl⟩ := H
            have p11 : 0 ≤ ((ji8) : Int) := of_decide_eq_true qq3
            have q11 : (ji8) < (a0.size : Int) := of_decide_eq_true qq3
            have hx11 := bt_at a0 (ji8)
            replace p11 := eq_true p11
            replace q11 := eq_true q11
            go_wp2
            go_ret3
            exact ⟨by first | rfl | (simp; done) | (simp only [← hji8] <;> (first | rfl | simp)) | (simp [*]; done), qq9⟩
          rw [if_neg c12] at H
          have c12b0 : decide ((wrap64 (bt a0 (ji8))) < 128) = false := decide_eq_false c12
          clear c12
          have H' := Aside0.mk H
          clear H
          have p11 : 0 ≤ ((ji8) : Int) := of_decide_eq_true qq3
          have q11 : (ji8) < (a0.size : Int) := of_decide_eq_true qq3
          have hx11 := bt_at a0 (ji8)
          replace p11 := eq_true p11
          replace q11 := eq_true q11
          go_wp2
          go_roundg k2
          case measure => have := HJ2.out; have := HK2.out; omega
          case rel => exact ⟨(wrap64 ((wrap64 (x7_2 * 128)) + (Int.tmod (wrap64 (bt a0 (ji8))) 128))), (wrap64 (x18_2 + 1)), (by first | rfl | (simp; done) | (simp only [← hji8] <;> (first | rfl | simp)) | (simp [*]; done)), qq6, H', ⟨by have := HJ2.out; have := HK2.out; omega⟩, qq9⟩
def wire_reader_number.f (k : Nat) (s0_0 : ByteArray) (s0_1 : Int) (s0_2 : Int) (s0_3 : Int) : Option (Int × ByteArray × Int × Int × Int) := if s0_3 = 0 then ((wire_ReadVlq.f k s0_0 s0_1).bind fun bt101 => (if bt101.2.2 = 0 then (some (bt101.1, s0_0, bt101.2.1, s0_2, s0_3)) else ((wire_reader_fail.f s0_0 s0_1 s0_2 s0_3 bt101.2.2).bind fun bt104 => (some (0, bt104.1, bt104.2.1, bt104.2.2.1, bt104.2.2.2))))) else (some (0, s0_0, s0_1, s0_2, s0_3))
theorem wire_reader_number.mono : ∀ a0 a1 a2 a3 k, LeO (wire_reader_number.f k a0 a1 a2 a3) (wire_reader_number.f (k + 1) a0 a1 a2 a3) := by
  intro a0 a1 a2 a3 k
  unfold wire_reader_number.f
  repeat' first
      | (with_reducible exact wire_ReadVlq.mono _ _ _)
      | (with_reducible exact LeO.refl _)
      | (with_reducible exact LeO.none _)
      | (with_reducible refine LeO.ite ?_ ?_)
      | (with_reducible refine LeO.bind ?_ (fun _ => ?_))
      | exact wire_ReadVlq.mono _ _ _
      | exact LeO.none _
      | refine LeO.ite ?_ ?_
      | refine LeO.bind ?_ (fun _ => ?_)
set_option maxHeartbeats 8000000 in
set_option maxRecDepth 100000 in
theorem wire_reader_number.calls (k : Nat) (g : Nat) (s0_0 : ByteArray) (s0_1 : Int) (s0_2 : Int) (s0_3 : Int) (r1 : Int) (r2 : ByteArray) (r3 : Int) (r4 : Int) (r5 : Int) (w0 w : World) (hI : IsS91 w0 w g s0_0 s0_1 s0_2 s0_3) (hB : Below w0.heap.size w0 w) (h : wire_reader_number.f k s0_0 s0_1 s0_2 s0_3 = some (r1, r2, r3, r4, r5)) :
    Calls Tryd.prog 50 #[.pointer (some ⟨g, 0, none⟩)] w fun e w' => e = .returned (.int .i64 r1) ∧ IsS91 w0 w' g r2 r3 r4 r5 ∧ Below w0.heap.size w0 w' ∧ KeepBut w w' g none := by
  have HI0 := Aside0.mk hI
  have HK := Aside0.mk (KeepBut.refl w g none)
  have HL := Aside0.mk hB.size
  clear hI
  have HW0 := Aside0.mk hB.size
  have HB := Aside0.mk hB
  clear hB
  have H := h
  unfold wire_reader_number.f at H
  clear h
  by_cases c2 : s0_3 = 0
  rotate_left
  · rw [if_neg c2] at H
    have c2b0 : (s0_3 == 0) = false := beq_eq_false_iff_ne.mpr c2
    have c2b1 : (s0_3 != 0) = true := bne_iff_ne.mpr c2
    simp only [Option.some.injEq, Prod.mk.injEq] at H
    obtain ⟨rfl, rfl, rfl, rfl, rfl⟩ := H
    obtain ⟨HGz9, hgz9⟩ := HI0.out
    have hcz9_0 := cellS91_0 HGz9
    have hcz9_1 := cellS91_1 HGz9
    have hcz9_2 := cellS91_2 HGz9
    have hcz9_3 := cellS91_3 HGz9
    have hfz9_0 := blk_frozen HGz9 0
    have hfz9_1 := blk_frozen HGz9 1
    have hfz9_2 := blk_frozen HGz9 2
    have hfz9_3 := blk_frozen HGz9 3
    clear HGz9 hgz9
    go_enter Tryd.func50, Tryd.ntmps50
    go_wp2
    repeat (go_quiet (fail); try go_wp2)
    go_ret
    exact ⟨qq4, qq1, by repeat (first | (with_reducible first | exact HB.out | apply below_alloc | apply pw_below_drewN | apply below_drew1 | refine below_set ?_ (IsS91.ge HI0.out)) | exact HB.out), qq2⟩
  rw [if_pos c2] at H
  have c2b0 : (s0_3 == 0) = true := beq_iff_eq.mpr c2
  have c2b1 : (s0_3 != 0) = false := bne_eq_false_iff_eq.mpr c2
  clear c2
  replace H := Option.bind_eq_some_iff.mp H
  obtain ⟨⟨t101, t102, t103⟩, A30, H⟩ := H
  try dsimp -simprocs only at H
  have A3 := Aside0.mk A30
  clear A30
  by_cases c4 : t103 = 0
  · rw [if_pos c4] at H
    have c4b0 : (t103 == 0) = true := beq_iff_eq.mpr c4
    have c4b1 : (t103 != 0) = false := bne_eq_false_iff_eq.mpr c4
    clear c4
    simp only [Option.some.injEq, Prod.mk.injEq] at H
    obtain ⟨rfl, rfl, rfl, rfl, rfl⟩ := H
    obtain ⟨HGz5, hgz5⟩ := HI0.out
    have hcz5_0 := cellS91_0 HGz5
    have hcz5_1 := cellS91_1 HGz5
    have hcz5_2 := cellS91_2 HGz5
    have hcz5_3 := cellS91_3 HGz5
    have hfz5_0 := blk_frozen HGz5 0
    have hfz5_1 := blk_frozen HGz5 1
    have hfz5_2 := blk_frozen HGz5 2
    have hfz5_3 := blk_frozen HGz5 3
    clear HGz5 hgz5
    go_enter Tryd.func50, Tryd.ntmps50
    go_wp2_with (first | (go_at_call 54; (with_reducible refine (wire_ReadVlq.calls k s0_0 s0_1 t101 t102 t103 _ A3.out).mono ?_); rintro e w' ⟨rfl, ⟨nd, rfl⟩⟩; (try first | exact ⟨rfl, _, World.drewN_drewN _ _ _⟩ | exact ⟨rfl, _, Eq.trans (World.drewN_drewN _ _ _) (congrArg (World.drewN _) (Nat.add_assoc _ _ _))⟩)))
    repeat (go_quiet (first | (go_at_call 54; (with_reducible refine (wire_ReadVlq.calls k s0_0 s0_1 t101 t102 t103 _ A3.out).mono ?_); rintro e w' ⟨rfl, ⟨nd, rfl⟩⟩; (try first | exact ⟨rfl, _, World.drewN_drewN _ _ _⟩ | exact ⟨rfl, _, Eq.trans (World.drewN_drewN _ _ _) (congrArg (World.drewN _) (Nat.add_assoc _ _ _))⟩))); try go_wp2_with (first | (go_at_call 54; (with_reducible refine (wire_ReadVlq.calls k s0_0 s0_1 t101 t102 t103 _ A3.out).mono ?_); rintro e w' ⟨rfl, ⟨nd, rfl⟩⟩; (try first | exact ⟨rfl, _, World.drewN_drewN _ _ _⟩ | exact ⟨rfl, _, Eq.trans (World.drewN_drewN _ _ _) (congrArg (World.drewN _) (Nat.add_assoc _ _ _))⟩))))
    go_ret
    exact ⟨qq4, qq1, by repeat (first | (with_reducible first | exact HB.out | apply below_alloc | apply pw_below_drewN | apply below_drew1 | refine below_set ?_ (IsS91.ge HI0.out)) | exact HB.out), qq2⟩
  rw [if_neg c4] at H
  have c4b0 : (t103 == 0) = false := beq_eq_false_iff_ne.mpr c4
  have c4b1 : (t103 != 0) = true := bne_iff_ne.mpr c4
  replace H := Option.bind_eq_some_iff.mp H
  obtain ⟨⟨t104, t105, t106, t107⟩, A60, H⟩ := H
  try dsimp -simprocs only at H
  have A6 := Aside0.mk A60
  clear A60
  simp only [Option.some.injEq, Prod.mk.injEq] at H
  obtain ⟨rfl, rfl, rfl, rfl, rfl⟩ := H
  obtain ⟨HGz7, hgz7⟩ := HI0.out
  have hcz7_0 := cellS91_0 HGz7
  have hcz7_1 := cellS91_1 HGz7
  have hcz7_2 := cellS91_2 HGz7
  have hcz7_3 := cellS91_3 HGz7
  have hfz7_0 := blk_frozen HGz7 0
  have hfz7_1 := blk_frozen HGz7 1
  have hfz7_2 := blk_frozen HGz7 2
  have hfz7_3 := blk_frozen HGz7 3
  clear HGz7 hgz7
  go_enter Tryd.func50, Tryd.ntmps50
  go_wp2_with (first | (go_at_call 54; (with_reducible refine (wire_ReadVlq.calls k s0_0 s0_1 t101 t102 t103 _ A3.out).mono ?_); rintro e w' ⟨rfl, ⟨nd, rfl⟩⟩; (try first | exact ⟨rfl, _, World.drewN_drewN _ _ _⟩ | exact ⟨rfl, _, Eq.trans (World.drewN_drewN _ _ _) (congrArg (World.drewN _) (Nat.add_assoc _ _ _))⟩)) | (go_at_call 55; (with_reducible refine (wire_reader_fail.calls g s0_0 s0_1 s0_2 s0_3 t103 t104 t105 t106 t107 w0 _ ?side1 ?side2 A6.out).mono ?_); (case side1 => exact qq1); (case side2 => repeat (first | (with_reducible first | exact HB.out | apply below_alloc | apply pw_below_drewN | apply below_drew1 | refine below_set ?_ (IsS91.ge HI0.out)) | exact HB.out)); rintro e w8 ⟨rfl, hi, hb, hk⟩; replace HK := Aside0.mk (KeepBut.trans qq2 hk (.inl rfl)); replace HB := Aside0.mk (hb); replace HI0 := Aside0.mk (hi); (try clear hb); (try clear hb2); (try clear hk); (try clear hi)))
  repeat (go_quiet (first | (go_at_call 54; (with_reducible refine (wire_ReadVlq.calls k s0_0 s0_1 t101 t102 t103 _ A3.out).mono ?_); rintro e w' ⟨rfl, ⟨nd, rfl⟩⟩; (try first | exact ⟨rfl, _, World.drewN_drewN _ _ _⟩ | exact ⟨rfl, _, Eq.trans (World.drewN_drewN _ _ _) (congrArg (World.drewN _) (Nat.add_assoc _ _ _))⟩)) | (go_at_call 55; (with_reducible refine (wire_reader_fail.calls g s0_0 s0_1 s0_2 s0_3 t103 t104 t105 t106 t107 w0 _ ?side1 ?side2 A6.out).mono ?_); (case side1 => exact qq1); (case side2 => repeat (first | (with_reducible first | exact HB.out | apply below_alloc | apply pw_below_drewN | apply below_drew1 | refine below_set ?_ (IsS91.ge HI0.out)) | exact HB.out)); rintro e w8 ⟨rfl, hi, hb, hk⟩; replace HK := Aside0.mk (KeepBut.trans qq2 hk (.inl rfl)); replace HB := Aside0.mk (hb); replace HI0 := Aside0.mk (hi); (try clear hb); (try clear hb2); (try clear hk); (try clear hi))); try go_wp2_with (first | (go_at_call 54; (with_reducible refine (wire_ReadVlq.calls k s0_0 s0_1 t101 t102 t103 _ A3.out).mono ?_); rintro e w' ⟨rfl, ⟨nd, rfl⟩⟩; (try first | exact ⟨rfl, _, World.drewN_drewN _ _ _⟩ | exact ⟨rfl, _, Eq.trans (World.drewN_drewN _ _ _) (congrArg (World.drewN _) (Nat.add_assoc _ _ _))⟩)) | (go_at_call 55; (with_reducible refine (wire_reader_fail.calls g s0_0 s0_1 s0_2 s0_3 t103 t104 t105 t106 t107 w0 _ ?side1 ?side2 A6.out).mono ?_); (case side1 => exact qq1); (case side2 => repeat (first | (with_reducible first | exact HB.out | apply below_alloc | apply pw_below_drewN | apply below_drew1 | refine below_set ?_ (IsS91.ge HI0.out)) | exact HB.out)); rintro e w8 ⟨rfl, hi, hb, hk⟩; replace HK := Aside0.mk (KeepBut.trans qq2 hk (.inl rfl)); replace HB := Aside0.mk (hb); replace HI0 := Aside0.mk (hi); (try clear hb); (try clear hb2); (try clear hk); (try clear hi))))
  go_ret
  exact ⟨qq4, qq1, by repeat (first | (with_reducible first | exact HB.out | apply below_alloc | apply pw_below_drewN | apply below_drew1 | refine below_set ?_ (IsS91.ge HI0.out)) | exact HB.out), qq2⟩
def wire_reader_status.f (s0_0 : ByteArray) (s0_1 : Int) (s0_2 : Int) (s0_3 : Int) : Option (Int × ByteArray × Int × Int × Int) := if s0_3 = 0 then (if s0_1 ≥ (s0_0.size : Int) then ((wire_reader_fail.f s0_0 s0_1 s0_2 s0_3 152).bind fun bt101 => (some (0, bt101.1, bt101.2.1, bt101.2.2.1, bt101.2.2.2))) else (if 0 ≤ s0_1 then (if s0_1 < (s0_0.size : Int) then (if (wrap64 (bt s0_0 s0_1)) < 128 then (if s0_2 = 0 then ((wire_reader_fail.f s0_0 s0_1 s0_2 s0_3 151).bind fun bt105 => (some (bt105.2.2.1, bt105.1, bt105.2.1, bt105.2.2.1, bt105.2.2.2))) else (some (s0_2, s0_0, s0_1, s0_2, s0_3))) else (if (wrap64 (bt s0_0 s0_1)) > 240 then (if (wrap64 (bt s0_0 s0_1)) = 247 then (some (wrap64 (bt s0_0 s0_1), s0_0, wrap64 (s0_1 + 1), s0_2, s0_3)) else (if (wrap64 (bt s0_0 s0_1)) = 255 then (some (wrap64 (bt s0_0 s0_1), s0_0, wrap64 (s0_1 + 1), s0_2, s0_3)) else ((wire_reader_fail.f s0_0 s0_1 s0_2 s0_3 151).bind fun bt109 => (some (wrap64 (bt s0_0 s0_1), bt109.1, wrap64 (bt109.2.1 + 1), bt109.2.2.1, bt109.2.2.2))))) else (some (wrap64 (bt s0_0 s0_1), s0_0, wrap64 (s0_1 + 1), s0_2, s0_3)))) else (none)) else (none))) else (some (0, s0_0, s0_1, s0_2, s0_3))
set_option maxHeartbeats 8000000 in
set_option maxRecDepth 100000 in
theorem wire_reader_status.calls (g : Nat) (s0_0 : ByteArray) (s0_1 : Int) (s0_2 : Int) (s0_3 : Int) (r1 : Int) (r2 : ByteArray) (r3 : Int) (r4 : Int) (r5 : Int) (w0 w : World) (hI : IsS91 w0 w g s0_0 s0_1 s0_2 s0_3) (hB : Below w0.heap.size w0 w) (h : wire_reader_status.f s0_0 s0_1 s0_2 s0_3 = some (r1, r2, r3, r4, r5)) :
    Calls Tryd.prog 51 #[.pointer (some ⟨g, 0, none⟩)] w fun e w' => e = .returned (.int .i64 r1) ∧ IsS91 w0 w' g r2 r3 r4 r5 ∧ Below w0.heap.size w0 w' ∧ KeepBut w w' g none := by
  have HI0 := Aside0.mk hI
  have HK := Aside0.mk (KeepBut.refl w g none)
  have HL := Aside0.mk hB.size
  clear hI
  have HW0 := Aside0.mk hB.size
  have HB := Aside0.mk hB
  clear hB
  have H := h
  unfold wire_reader_status.f at H
  clear h
  by_cases c2 : s0_3 = 0
  rotate_left
  · rw [if_neg c2] at H
    have c2b0 : (s0_3 == 0) = false := beq_eq_false_iff_ne.mpr c2
    have c2b1 : (s0_3 != 0) = true := bne_iff_ne.mpr c2
    simp only [Option.some.injEq, Prod.mk.injEq] at H
    obtain ⟨rfl, rfl, rfl, rfl, rfl⟩ := H
    obtain ⟨HGz27, hgz27⟩ := HI0.out
    have hcz27_0 := cellS91_0 HGz27
    have hcz27_1 := cellS91_1 HGz27
    have hcz27_2 := cellS91_2 HGz27
    have hcz27_3 := cellS91_3 HGz27
    have hfz27_0 := blk_frozen HGz27 0
    have hfz27_1 := blk_frozen HGz27 1
    have hfz27_2 := blk_frozen HGz27 2
    have hfz27_3 := blk_frozen HGz27 3
    clear HGz27 hgz27
    go_enter Tryd.func51, Tryd.ntmps51
    go_wp2
    repeat (go_quiet (fail); try go_wp2)
    go_ret
    exact ⟨qq4, qq1, by repeat (first | (with_reducible first | exact HB.out | apply below_alloc | apply pw_below_drewN | apply below_drew1 | refine below_set ?_ (IsS91.ge HI0.out)) | exact HB.out), qq2⟩
  rw [if_pos c2] at H
  have c2b0 : (s0_3 == 0) = true := beq_iff_eq.mpr c2
  have c2b1 : (s0_3 != 0) = false := bne_eq_false_iff_eq.mpr c2
  clear c2
  by_cases c3 : s0_1 ≥ (s0_0.size : Int)
  · rw [if_pos c3] at H
    have c3b0 : decide ((s0_0.size : Int) ≤ s0_1) = true := decide_eq_true c3
    clear c3
    replace H := Option.bind_eq_some_iff.mp H
    obtain ⟨⟨t101, t102, t103, t104⟩, A40, H⟩ := H
    try dsimp -simprocs only at H
    have A4 := Aside0.mk A40
    clear A40
    simp only [Option.some.injEq, Prod.mk.injEq] at H
    obtain ⟨rfl, rfl, rfl, rfl, rfl⟩ := H
    obtain ⟨HGz5, hgz5⟩ := HI0.out
    have hcz5_0 := cellS91_0 HGz5
    have hcz5_1 := cellS91_1 HGz5
    have hcz5_2 := cellS91_2 HGz5
    have hcz5_3 := cellS91_3 HGz5
    have hfz5_0 := blk_frozen HGz5 0
    have hfz5_1 := blk_frozen HGz5 1
    have hfz5_2 := blk_frozen HGz5 2
    have hfz5_3 := blk_frozen HGz5 3
    clear HGz5 hgz5
    go_enter Tryd.func51, Tryd.ntmps51
    go_wp2_with (first | (go_at_call 55; (with_reducible refine (wire_reader_fail.calls g s0_0 s0_1 s0_2 s0_3 152 t101 t102 t103 t104 w0 _ ?side1 ?side2 A4.out).mono ?_); (case side1 => exact qq1); (case side2 => repeat (first | (with_reducible first | exact HB.out | apply below_alloc | apply pw_below_drewN | apply below_drew1 | refine below_set ?_ (IsS91.ge HI0.out)) | exact HB.out)); rintro e w6 ⟨rfl, hi, hb, hk⟩; replace HK := Aside0.mk (KeepBut.trans qq2 hk (.inl rfl)); replace HB := Aside0.mk (hb); replace HI0 := Aside0.mk (hi); (try clear hb); (try clear hb2); (try clear hk); (try clear hi)))
    repeat (go_quiet (first | (go_at_call 55; (with_reducible refine (wire_reader_fail.calls g s0_0 s0_1 s0_2 s0_3 152 t101 t102 t103 t104 w0 _ ?side1 ?side2 A4.out).mono ?_); (case side1 => exact qq1); (case side2 => repeat (first | (with_reducible first | exact HB.out | apply below_alloc | apply pw_below_drewN | apply below_drew1 | refine below_set ?_ (IsS91.ge HI0.out)) | exact HB.out)); rintro e w6 ⟨rfl, hi, hb, hk⟩; replace HK := Aside0.mk (KeepBut.trans qq2 hk (.inl rfl)); replace HB := Aside0.mk (hb); replace HI0 := Aside0.mk (hi); (try clear hb); (try clear hb2); (try clear hk); (try clear hi))); try go_wp2_with (first | (go_at_call 55; (with_reducible refine (wire_reader_fail.calls g s0_0 s0_1 s0_2 s0_3 152 t101 t102 t103 t104 w0 _ ?side1 ?side2 A4.out).mono ?_); (case side1 => exact qq1); (case side2 => repeat (first | (with_reducible first | exact HB.out | apply below_alloc | apply pw_below_drewN | apply below_drew1 | refine below_set ?_ (IsS91.ge HI0.out)) | exact HB.out)); rintro e w6 ⟨rfl, hi, hb, hk⟩; replace HK := Aside0.mk (KeepBut.trans qq2 hk (.inl rfl)); replace HB := Aside0.mk (hb); replace HI0 := Aside0.mk (hi); (try clear hb); (try clear hb2); (try clear hk); (try clear hi))))
    go_ret
    exact ⟨qq4, qq1, by repeat (first | (with_reducible first | exact HB.out | apply below_alloc | apply pw_below_drewN | apply below_drew1 | refine below_set ?_ (IsS91.ge HI0.out)) | exact HB.out), qq2⟩
  rw [if_neg c3] at H
  have c3b0 : decide ((s0_0.size : Int) ≤ s0_1) = false := decide_eq_false c3
  clear c3
  by_cases c7 : 0 ≤ s0_1
  rotate_left
  · rw [if_neg c7] at H
    exact absurd H (by simp)
  rw [if_pos c7] at H
  have c7b0 : decide (0 ≤ s0_1) = true := decide_eq_true c7
  clear c7
  by_cases c8 : s0_1 < (s0_0.size : Int)
  rotate_left
  · rw [if_neg c8] at H
    exact absurd H (by simp)
  rw [if_pos c8] at H
  have c8b0 : decide (s0_1 < (s0_0.size : Int)) = true := decide_eq_true c8
  clear c8
  by_cases c10 : (wrap64 (bt s0_0 s0_1)) < 128
  · rw [if_pos c10] at H
    have c10b0 : decide ((wrap64 (bt s0_0 s0_1)) < 128) = true := decide_eq_true c10
    clear c10
    by_cases c11 : s0_2 = 0
    rotate_left
    · rw [if_neg c11] at H
      have c11b0 : (s0_2 == 0) = false := beq_eq_false_iff_ne.mpr c11
      have c11b1 : (s0_2 != 0) = true := bne_iff_ne.mpr c11
      simp only [Option.some.injEq, Prod.mk.injEq] at H
      obtain ⟨rfl, rfl, rfl, rfl, rfl⟩ := H
      obtain ⟨HGz16, hgz16⟩ := HI0.out
      have hcz16_0 := cellS91_0 HGz16
      have hcz16_1 := cellS91_1 HGz16
      have hcz16_2 := cellS91_2 HGz16
      have hcz16_3 := cellS91_3 HGz16
      have hfz16_0 := blk_frozen HGz16 0
      have hfz16_1 := blk_frozen HGz16 1
      have hfz16_2 := blk_frozen HGz16 2
      have hfz16_3 := blk_frozen HGz16 3
      clear HGz16 hgz16
      have p9 : 0 ≤ (s0_1 : Int) := of_decide_eq_true qq3
      have q9 : s0_1 < (s0_0.size : Int) := of_decide_eq_true qq3
      have hx9 := bt_at s0_0 s0_1
      replace p9 := eq_true p9
      replace q9 := eq_true q9
      go_enter Tryd.func51, Tryd.ntmps51
      go_wp2
      repeat (go_quiet (fail); try go_wp2)
      go_ret
      exact ⟨qq4, qq1, by repeat (first | (with_reducible first | exact HB.out | apply below_alloc | apply pw_below_drewN | apply below_drew1 | refine below_set ?_ (IsS91.ge HI0.out)) | exact HB.out), qq2⟩
    rw [if_pos c11] at H
    have c11b0 : (s0_2 == 0) = true := beq_iff_eq.mpr c11
    have c11b1 : (s0_2 != 0) = false := bne_eq_false_iff_eq.mpr c11
    clear c11
    replace H := Option.bind_eq_some_iff.mp H
    obtain ⟨⟨t105, t106, t107, t108⟩, A120, H⟩ := H
    try dsimp -simprocs only at H
    have A12 := Aside0.mk A120
    clear A120
    simp only [Option.some.injEq, Prod.mk.injEq] at H
    obtain ⟨rfl, rfl, rfl, rfl, rfl⟩ := H
    obtain ⟨HGz13, hgz13⟩ := HI0.out
    have hcz13_0 := cellS91_0 HGz13
    have hcz13_1 := cellS91_1 HGz13
    have hcz13_2 := cellS91_2 HGz13
    have hcz13_3 := cellS91_3 HGz13
    have hfz13_0 := blk_frozen HGz13 0
    have hfz13_1 := blk_frozen HGz13 1
    have hfz13_2 := blk_frozen HGz13 2
    have hfz13_3 := blk_frozen HGz13 3
    clear HGz13 hgz13
    have p9 : 0 ≤ (s0_1 : Int) := of_decide_eq_true qq3
    have q9 : s0_1 < (s0_0.size : Int) := of_decide_eq_true qq3
    have hx9 := bt_at s0_0 s0_1
    replace p9 := eq_true p9
    replace q9 := eq_true q9
    go_enter Tryd.func51, Tryd.ntmps51
    go_wp2_with (first | (go_at_call 55; (with_reducible refine (wire_reader_fail.calls g s0_0 s0_1 s0_2 s0_3 151 t105 t106 t107 t108 w0 _ ?side1 ?side2 A12.out).mono ?_); (case side1 => exact qq1); (case side2 => repeat (first | (with_reducible first | exact HB.out | apply below_alloc | apply pw_below_drewN | apply below_drew1 | refine below_set ?_ (IsS91.ge HI0.out)) | exact HB.out)); rintro e w14 ⟨rfl, hi, hb, hk⟩; replace HK := Aside0.mk (KeepBut.trans qq2 hk (.inl rfl)); replace HB := Aside0.mk (hb); replace HI0 := Aside0.mk (hi); (try clear hb); (try clear hb2); (try clear hk); (try clear hi); obtain ⟨HGz15, hgz15⟩ := HI0.out; have hcz15_0 := cellS91_0 HGz15; have hcz15_1 := cellS91_1 HGz15; have hcz15_2 := cellS91_2 HGz15; have hcz15_3 := cellS91_3 HGz15; have hfz15_0 := blk_frozen HGz15 0; have hfz15_1 := blk_frozen HGz15 1; have hfz15_2 := blk_frozen HGz15 2; have hfz15_3 := blk_frozen HGz15 3; clear HGz15 hgz15))
    repeat (go_quiet (first | (go_at_call 55; (with_reducible refine (wire_reader_fail.calls g s0_0 s0_1 s0_2 s0_3 151 t105 t106 t107 t108 w0 _ ?side1 ?side2 A12.out).mono ?_); (case side1 => exact qq1); (case side2 => repeat (first | (with_reducible first | exact HB.out | apply below_alloc | apply pw_below_drewN | apply below_drew1 | refine below_set ?_ (IsS91.ge HI0.out)) | exact HB.out)); rintro e w14 ⟨rfl, hi, hb, hk⟩; replace HK := Aside0.mk (KeepBut.trans qq2 hk (.inl rfl)); replace HB := Aside0.mk (hb); replace HI0 := Aside0.mk (hi); (try clear hb); (try clear hb2); (try clear hk); (try clear hi); obtain ⟨HGz15, hgz15⟩ := HI0.out; have hcz15_0 := cellS91_0 HGz15; have hcz15_1 := cellS91_1 HGz15; have hcz15_2 := cellS91_2 HGz15; have hcz15_3 := cellS91_3 HGz15; have hfz15_0 := blk_frozen HGz15 0; have hfz15_1 := blk_frozen HGz15 1; have hfz15_2 := blk_frozen HGz15 2; have hfz15_3 := blk_frozen HGz15 3; clear HGz15 hgz15)); try go_wp2_with (first | (go_at_call 55; (with_reducible refine (wire_reader_fail.calls g s0_0 s0_1 s0_2 s0_3 151 t105 t106 t107 t108 w0 _ ?side1 ?side2 A12.out).mono ?_); (case side1 => exact qq1); (case side2 => repeat (first | (with_reducible first | exact HB.out | apply below_alloc | apply pw_below_drewN | apply below_drew1 | refine below_set ?_ (IsS91.ge HI0.out)) | exact HB.out)); rintro e w14 ⟨rfl, hi, hb, hk⟩; replace HK := Aside0.mk (KeepBut.trans qq2 hk (.inl rfl)); replace HB := Aside0.mk (hb); replace HI0 := Aside0.mk (hi); (try clear hb); (try clear hb2); (try clear hk); (try clear hi); obtain ⟨HGz15, hgz15⟩ := HI0.out; have hcz15_0 := cellS91_0 HGz15; have hcz15_1 := cellS91_1 HGz15; have hcz15_2 := cellS91_2 HGz15; have hcz15_3 := cellS91_3 HGz15; have hfz15_0 := blk_frozen HGz15 0; have hfz15_1 := blk_frozen HGz15 1; have hfz15_2 := blk_frozen HGz15 2; have hfz15_3 := blk_frozen HGz15 3; clear HGz15 hgz15)))
    go_ret
    exact ⟨qq4, qq1, by repeat (first | (with_reducible first | exact HB.out | apply below_alloc | apply pw_below_drewN | apply below_drew1 | refine below_set ?_ (IsS91.ge HI0.out)) | exact HB.out), qq2⟩
  rw [if_neg c10] at H
  have c10b0 : decide ((wrap64 (bt s0_0 s0_1)) < 128) = false := decide_eq_false c10
  clear c10
  by_cases c17 : (wrap64 (bt s0_0 s0_1)) > 240
  rotate_left
  · rw [if_neg c17] at H
    have c17b0 : decide (240 < (wrap64 (bt s0_0 s0_1))) = false := decide_eq_false c17
    clear c17
    simp only [Option.some.injEq, Prod.mk.injEq] at H
    obtain ⟨rfl, rfl, rfl, rfl, rfl⟩ := H
    obtain ⟨HGz26, hgz26⟩ := HI0.out
    have hcz26_0 := cellS91_0 HGz26
    have hcz26_1 := cellS91_1 HGz26
    have hcz26_2 := cellS91_2 HGz26
    have hcz26_3 := cellS91_3 HGz26
    have hfz26_0 := blk_frozen HGz26 0
    have hfz26_1 := blk_frozen HGz26 1
    have hfz26_2 := blk_frozen HGz26 2
    have hfz26_3 := blk_frozen HGz26 3
    clear HGz26 hgz26
    have p9 : 0 ≤ (s0_1 : Int) := of_decide_eq_true qq3
    have q9 : s0_1 < (s0_0.size : Int) := of_decide_eq_true qq3
    have hx9 := bt_at s0_0 s0_1
    replace p9 := eq_true p9
    replace q9 := eq_true q9
    go_enter Tryd.func51, Tryd.ntmps51
    go_wp2
    repeat (go_quiet (fail); try go_wp2)
    go_ret
    exact ⟨qq4, qq1, by repeat (first | (with_reducible first | exact HB.out | apply below_alloc | apply pw_below_drewN | apply below_drew1 | refine below_set ?_ (IsS91.ge HI0.out)) | exact HB.out), qq2⟩
  rw [if_pos c17] at H
  have c17b0 : decide (240 < (wrap64 (bt s0_0 s0_1))) = true := decide_eq_true c17
  clear c17
  by_cases c18 : (wrap64 (bt s0_0 s0_1)) = 247
  · rw [if_pos c18] at H
    have c18b0 : ((wrap64 (bt s0_0 s0_1)) == 247) = true := beq_iff_eq.mpr c18
    have c18b1 : ((wrap64 (bt s0_0 s0_1)) != 247) = false := bne_eq_false_iff_eq.mpr c18
    clear c18
    simp only [Option.some.injEq, Prod.mk.injEq] at H
    obtain ⟨rfl, rfl, rfl, rfl, rfl⟩ := H
    obtain ⟨HGz19, hgz19⟩ := HI0.out
    have hcz19_0 := cellS91_0 HGz19
    have hcz19_1 := cellS91_1 HGz19
    have hcz19_2 := cellS91_2 HGz19
    have hcz19_3 := cellS91_3 HGz19
    have hfz19_0 := blk_frozen HGz19 0
    have hfz19_1 := blk_frozen HGz19 1
    have hfz19_2 := blk_frozen HGz19 2
    have hfz19_3 := blk_frozen HGz19 3
    clear HGz19 hgz19
    have p9 : 0 ≤ (s0_1 : Int) := of_decide_eq_true qq3
    have q9 : s0_1 < (s0_0.size : Int) := of_decide_eq_true qq3
    have hx9 := bt_at s0_0 s0_1
    replace p9 := eq_true p9
    replace q9 := eq_true q9
    go_enter Tryd.func51, Tryd.ntmps51
    go_wp2
    repeat (go_quiet (fail); try go_wp2)
    go_ret
    exact ⟨qq4, qq1, by repeat (first | (with_reducible first | exact HB.out | apply below_alloc | apply pw_below_drewN | apply below_drew1 | refine below_set ?_ (IsS91.ge HI0.out)) | exact HB.out), qq2⟩
  rw [if_neg c18] at H
  have c18b0 : ((wrap64 (bt s0_0 s0_1)) == 247) = false := beq_eq_false_iff_ne.mpr c18
  have c18b1 : ((wrap64 (bt s0_0 s0_1)) != 247) = true := bne_iff_ne.mpr c18
  by_cases c20 : (wrap64 (bt s0_0 s0_1)) = 255
  · rw [if_pos c20] at H
    have c20b0 : ((wrap64 (bt s0_0 s0_1)) == 255) = true := beq_iff_eq.mpr c20
    have c20b1 : ((wrap64 (bt s0_0 s0_1)) != 255) = false := bne_eq_false_iff_eq.mpr c20
    clear c20
    simp only [Option.some.injEq, Prod.mk.injEq] at H
    obtain ⟨rfl, rfl, rfl, rfl, rfl⟩ := H
    obtain ⟨HGz21, hgz21⟩ := HI0.out
    have hcz21_0 := cellS91_0 HGz21
    have hcz21_1 := cellS91_1 HGz21
    have hcz21_2 := cellS91_2 HGz21
    have hcz21_3 := cellS91_3 HGz21
    have hfz21_0 := blk_frozen HGz21 0
    have hfz21_1 := blk_frozen HGz21 1
    have hfz21_2 := blk_frozen HGz21 2
    have hfz21_3 := blk_frozen HGz21 3
    clear HGz21 hgz21
    have p9 : 0 ≤ (s0_1 : Int) := of_decide_eq_true qq3
    have q9 : s0_1 < (s0_0.size : Int) := of_decide_eq_true qq3
    have hx9 := bt_at s0_0 s0_1
    replace p9 := eq_true p9
    replace q9 := eq_true q9
    go_enter Tryd.func51, Tryd.ntmps51
    go_wp2
    repeat (go_quiet (fail); try go_wp2)
    go_ret
    exact ⟨qq4, qq1, by repeat (first | (with_reducible first | exact HB.out | apply below_alloc | apply pw_below_drewN | apply below_drew1 | refine below_set ?_ (IsS91.ge HI0.out)) | exact HB.out), qq2⟩
  rw [if_neg c20] at H
  have c20b0 : ((wrap64 (bt s0_0 s0_1)) == 255) = false := beq_eq_false_iff_ne.mpr c20
  have c20b1 : ((wrap64 (bt s0_0 s0_1)) != 255) = true := bne_iff_ne.mpr c20
  replace H := Option.bind_eq_some_iff.mp H
  obtain ⟨⟨t109, t110, t111, t112⟩, A220, H⟩ := H
  try dsimp -simprocs only at H
  have A22 := Aside0.mk A220
  clear A220
  simp only [Option.some.injEq, Prod.mk.injEq] at H
  obtain ⟨rfl, rfl, rfl, rfl, rfl⟩ := H
  obtain ⟨HGz23, hgz23⟩ := HI0.out
  have hcz23_0 := cellS91_0 HGz23
  have hcz23_1 := cellS91_1 HGz23
  have hcz23_2 := cellS91_2 HGz23
  have hcz23_3 := cellS91_3 HGz23
  have hfz23_0 := blk_frozen HGz23 0
  have hfz23_1 := blk_frozen HGz23 1
  have hfz23_2 := blk_frozen HGz23 2
  have hfz23_3 := blk_frozen HGz23 3
  clear HGz23 hgz23
  have p9 : 0 ≤ (s0_1 : Int) := of_decide_eq_true qq3
  have q9 : s0_1 < (s0_0.size : Int) := of_decide_eq_true qq3
  have hx9 := bt_at s0_0 s0_1
  replace p9 := eq_true p9
  replace q9 := eq_true q9
  go_enter Tryd.func51, Tryd.ntmps51
  go_wp2_with (first | (go_at_call 55; (with_reducible refine (wire_reader_fail.calls g s0_0 s0_1 s0_2 s0_3 151 t109 t110 t111 t112 w0 _ ?side1 ?side2 A22.out).mono ?_); (case side1 => exact qq1); (case side2 => repeat (first | (with_reducible first | exact HB.out | apply below_alloc | apply pw_below_drewN | apply below_drew1 | refine below_set ?_ (IsS91.ge HI0.out)) | exact HB.out)); rintro e w24 ⟨rfl, hi, hb, hk⟩; replace HK := Aside0.mk (KeepBut.trans qq2 hk (.inl rfl)); replace HB := Aside0.mk (hb); replace HI0 := Aside0.mk (hi); (try clear hb); (try clear hb2); (try clear hk); (try clear hi); obtain ⟨HGz25, hgz25⟩ := HI0.out; have hcz25_0 := cellS91_0 HGz25; have hcz25_1 := cellS91_1 HGz25; have hcz25_2 := cellS91_2 HGz25; have hcz25_3 := cellS91_3 HGz25; have hfz25_0 := blk_frozen HGz25 0; have hfz25_1 := blk_frozen HGz25 1; have hfz25_2 := blk_frozen HGz25 2; have hfz25_3 := blk_frozen HGz25 3; clear HGz25 hgz25))
  repeat (go_quiet (first | (go_at_call 55; (with_reducible refine (wire_reader_fail.calls g s0_0 s0_1 s0_2 s0_3 151 t109 t110 t111 t112 w0 _ ?side1 ?side2 A22.out).mono ?_); (case side1 => exact qq1); (case side2 => repeat (first | (with_reducible first | exact HB.out | apply below_alloc | apply pw_below_drewN | apply below_drew1 | refine below_set ?_ (IsS91.ge HI0.out)) | exact HB.out)); rintro e w24 ⟨rfl, hi, hb, hk⟩; replace HK := Aside0.mk (KeepBut.trans qq2 hk (.inl rfl)); replace HB := Aside0.mk (hb); replace HI0 := Aside0.mk (hi); (try clear hb); (try clear hb2); (try clear hk); (try clear hi); obtain ⟨HGz25, hgz25⟩ := HI0.out; have hcz25_0 := cellS91_0 HGz25; have hcz25_1 := cellS91_1 HGz25; have hcz25_2 := cellS91_2 HGz25; have hcz25_3 := cellS91_3 HGz25; have hfz25_0 := blk_frozen HGz25 0; have hfz25_1 := blk_frozen HGz25 1; have hfz25_2 := blk_frozen HGz25 2; have hfz25_3 := blk_frozen HGz25 3; clear HGz25 hgz25)); try go_wp2_with (first | (go_at_call 55; (with_reducible refine (wire_reader_fail.calls g s0_0 s0_1 s0_2 s0_3 151 t109 t110 t111 t112 w0 _ ?side1 ?side2 A22.out).mono ?_); (case side1 => exact qq1); (case side2 => repeat (first | (with_reducible first | exact HB.out | apply below_alloc | apply pw_below_drewN | apply below_drew1 | refine below_set ?_ (IsS91.ge HI0.out)) | exact HB.out)); rintro e w24 ⟨rfl, hi, hb, hk⟩; replace HK := Aside0.mk (KeepBut.trans qq2 hk (.inl rfl)); replace HB := Aside0.mk (hb); replace HI0 := Aside0.mk (hi); (try clear hb); (try clear hb2); (try clear hk); (try clear hi); obtain ⟨HGz25, hgz25⟩ := HI0.out; have hcz25_0 := cellS91_0 HGz25; have hcz25_1 := cellS91_1 HGz25; have hcz25_2 := cellS91_2 HGz25; have hcz25_3 := cellS91_3 HGz25; have hfz25_0 := blk_frozen HGz25 0; have hfz25_1 := blk_frozen HGz25 1; have hfz25_2 := blk_frozen HGz25 2; have hfz25_3 := blk_frozen HGz25 3; clear HGz25 hgz25)))
  go_ret
  exact ⟨qq4, qq1, by repeat (first | (with_reducible first | exact HB.out | apply below_alloc | apply pw_below_drewN | apply below_drew1 | refine below_set ?_ (IsS91.ge HI0.out)) | exact HB.out), qq2⟩
def wire_reader_data.f (s0_0 : ByteArray) (s0_1 : Int) (s0_2 : Int) (s0_3 : Int) : Option (Int × ByteArray × Int × Int × Int) := if s0_3 = 0 then (if s0_1 ≥ (s0_0.size : Int) then ((wire_reader_fail.f s0_0 s0_1 s0_2 s0_3 152).bind fun bt101 => (some (0, bt101.1, bt101.2.1, bt101.2.2.1, bt101.2.2.2))) else (if 0 ≤ s0_1 then (if s0_1 < (s0_0.size : Int) then (if (wrap64 (bt s0_0 s0_1)) ≥ 128 then ((wire_reader_fail.f s0_0 s0_1 s0_2 s0_3 151).bind fun bt105 => (some (0, bt105.1, bt105.2.1, bt105.2.2.1, bt105.2.2.2))) else (some (wrap64 (bt s0_0 s0_1), s0_0, wrap64 (s0_1 + 1), s0_2, s0_3))) else (none)) else (none))) else (some (0, s0_0, s0_1, s0_2, s0_3))
set_option maxHeartbeats 8000000 in
set_option maxRecDepth 100000 in
theorem wire_reader_data.calls (g : Nat) (s0_0 : ByteArray) (s0_1 : Int) (s0_2 : Int) (s0_3 : Int) (r1 : Int) (r2 : ByteArray) (r3 : Int) (r4 : Int) (r5 : Int) (w0 w : World) (hI : IsS91 w0 w g s0_0 s0_1 s0_2 s0_3) (hB : Below w0.heap.size w0 w) (h : wire_reader_data.f s0_0 s0_1 s0_2 s0_3 = some (r1, r2, r3, r4, r5)) :
    Calls Tryd.prog 52 #[.pointer (some ⟨g, 0, none⟩)] w fun e w' => e = .returned (.int .i64 r1) ∧ IsS91 w0 w' g r2 r3 r4 r5 ∧ Below w0.heap.size w0 w' ∧ KeepBut w w' g none := by
  have HI0 := Aside0.mk hI
  have HK := Aside0.mk (KeepBut.refl w g none)
  have HL := Aside0.mk hB.size
  clear hI
  have HW0 := Aside0.mk hB.size
  have HB := Aside0.mk hB
  clear hB
  have H := h
  unfold wire_reader_data.f at H
  clear h
  by_cases c2 : s0_3 = 0
  rotate_left
  · rw [if_neg c2] at H
    have c2b0 : (s0_3 == 0) = false := beq_eq_false_iff_ne.mpr c2
    have c2b1 : (s0_3 != 0) = true := bne_iff_ne.mpr c2
    simp only [Option.some.injEq, Prod.mk.injEq] at H
    obtain ⟨rfl, rfl, rfl, rfl, rfl⟩ := H
    obtain ⟨HGz15, hgz15⟩ := HI0.out
    have hcz15_0 := cellS91_0 HGz15
    have hcz15_1 := cellS91_1 HGz15
    have hcz15_2 := cellS91_2 HGz15
    have hcz15_3 := cellS91_3 HGz15
    have hfz15_0 := blk_frozen HGz15 0
    have hfz15_1 := blk_frozen HGz15 1
    have hfz15_2 := blk_frozen HGz15 2
    have hfz15_3 := blk_frozen HGz15 3
    clear HGz15 hgz15
    go_enter Tryd.func52, Tryd.ntmps52
    go_wp2
    repeat (go_quiet (fail); try go_wp2)
    go_ret
    exact ⟨qq4, qq1, by repeat (first | (with_reducible first | exact HB.out | apply below_alloc | apply pw_below_drewN | apply below_drew1 | refine below_set ?_ (IsS91.ge HI0.out)) | exact HB.out), qq2⟩
  rw [if_pos c2] at H
  have c2b0 : (s0_3 == 0) = true := beq_iff_eq.mpr c2
  have c2b1 : (s0_3 != 0) = false := bne_eq_false_iff_eq.mpr c2
  clear c2
  by_cases c3 : s0_1 ≥ (s0_0.size : Int)
  · rw [if_pos c3] at H
    have c3b0 : decide ((s0_0.size : Int) ≤ s0_1) = true := decide_eq_true c3
    clear c3
    replace H := Option.bind_eq_some_iff.mp H
    obtain ⟨⟨t101, t102, t103, t104⟩, A40, H⟩ := H
    try dsimp -simprocs only at H
    have A4 := Aside0.mk A40
    clear A40
    simp only [Option.some.injEq, Prod.mk.injEq] at H
    obtain ⟨rfl, rfl, rfl, rfl, rfl⟩ := H
    obtain ⟨HGz5, hgz5⟩ := HI0.out
    have hcz5_0 := cellS91_0 HGz5
    have hcz5_1 := cellS91_1 HGz5
    have hcz5_2 := cellS91_2 HGz5
    have hcz5_3 := cellS91_3 HGz5
    have hfz5_0 := blk_frozen HGz5 0
    have hfz5_1 := blk_frozen HGz5 1
    have hfz5_2 := blk_frozen HGz5 2
    have hfz5_3 := blk_frozen HGz5 3
    clear HGz5 hgz5
    go_enter Tryd.func52, Tryd.ntmps52
    go_wp2_with (first | (go_at_call 55; (with_reducible refine (wire_reader_fail.calls g s0_0 s0_1 s0_2 s0_3 152 t101 t102 t103 t104 w0 _ ?side1 ?side2 A4.out).mono ?_); (case side1 => exact qq1); (case side2 => repeat (first | (with_reducible first | exact HB.out | apply below_alloc | apply pw_below_drewN | apply below_drew1 | refine below_set ?_ (IsS91.ge HI0.out)) | exact HB.out)); rintro e w6 ⟨rfl, hi, hb, hk⟩; replace HK := Aside0.mk (KeepBut.trans qq2 hk (.inl rfl)); replace HB := Aside0.mk (hb); replace HI0 := Aside0.mk (hi); (try clear hb); (try clear hb2); (try clear hk); (try clear hi)))
    repeat (go_quiet (first | (go_at_call 55; (with_reducible refine (wire_reader_fail.calls g s0_0 s0_1 s0_2 s0_3 152 t101 t102 t103 t104 w0 _ ?side1 ?side2 A4.out).mono ?_); (case side1 => exact qq1); (case side2 => repeat (first | (with_reducible first | exact HB.out | apply below_alloc | apply pw_below_drewN | apply below_drew1 | refine below_set ?_ (IsS91.ge HI0.out)) | exact HB.out)); rintro e w6 ⟨rfl, hi, hb, hk⟩; replace HK := Aside0.mk (KeepBut.trans qq2 hk (.inl rfl)); replace HB := Aside0.mk (hb); replace HI0 := Aside0.mk (hi); (try clear hb); (try clear hb2); (try clear hk); (try clear hi))); try go_wp2_with (first | (go_at_call 55; (with_reducible refine (wire_reader_fail.calls g s0_0 s0_1 s0_2 s0_3 152 t101 t102 t103 t104 w0 _ ?side1 ?side2 A4.out).mono ?_); (case side1 => exact qq1); (case side2 => repeat (first | (with_reducible first | exact HB.out | apply below_alloc | apply pw_below_drewN | apply below_drew1 | refine below_set ?_ (IsS91.ge HI0.out)) | exact HB.out)); rintro e w6 ⟨rfl, hi, hb, hk⟩; replace HK := Aside0.mk (KeepBut.trans qq2 hk (.inl rfl)); replace HB := Aside0.mk (hb); replace HI0 := Aside0.mk (hi); (try clear hb); (try clear hb2); (try clear hk); (try clear hi))))
    go_ret
    exact ⟨qq4, qq1, by repeat (first | (with_reducible first | exact HB.out | apply below_alloc | apply pw_below_drewN | apply below_drew1 | refine below_set ?_ (IsS91.ge HI0.out)) | exact HB.out), qq2⟩
  rw [if_neg c3] at H
  have c3b0 : decide ((s0_0.size : Int) ≤ s0_1) = false := decide_eq_false c3
  clear c3
  by_cases c7 : 0 ≤ s0_1
  rotate_left
  · rw [if_neg c7] at H
    exact absurd H (by simp)
  rw [if_pos c7] at H
  have c7b0 : decide (0 ≤ s0_1) = true := decide_eq_true c7
  clear c7
  by_cases c8 : s0_1 < (s0_0.size : Int)
  rotate_left
  · rw [if_neg c8] at H
    exact absurd H (by simp)
  rw [if_pos c8] at H
  have c8b0 : decide (s0_1 < (s0_0.size : Int)) = true := decide_eq_true c8
  clear c8
  by_cases c10 : (wrap64 (bt s0_0 s0_1)) ≥ 128
  rotate_left
  · rw [if_neg c10] at H
    have c10b0 : decide (128 ≤ (wrap64 (bt s0_0 s0_1))) = false := decide_eq_false c10
    clear c10
    simp only [Option.some.injEq, Prod.mk.injEq] at H
    obtain ⟨rfl, rfl, rfl, rfl, rfl⟩ := H
    obtain ⟨HGz14, hgz14⟩ := HI0.out
    have hcz14_0 := cellS91_0 HGz14
    have hcz14_1 := cellS91_1 HGz14
    have hcz14_2 := cellS91_2 HGz14
    have hcz14_3 := cellS91_3 HGz14
    have hfz14_0 := blk_frozen HGz14 0
    have hfz14_1 := blk_frozen HGz14 1
    have hfz14_2 := blk_frozen HGz14 2
    have hfz14_3 := blk_frozen HGz14 3
    clear HGz14 hgz14
    have p9 : 0 ≤ (s0_1 : Int) := of_decide_eq_true qq3
    have q9 : s0_1 < (s0_0.size : Int) := of_decide_eq_true qq3
    have hx9 := bt_at s0_0 s0_1
    replace p9 := eq_true p9
    replace q9 := eq_true q9
    go_enter Tryd.func52, Tryd.ntmps52
    go_wp2
    repeat (go_quiet (fail); try go_wp2)
    go_ret
    exact ⟨qq4, qq1, by repeat (first | (with_reducible first | exact HB.out | apply below_alloc | apply pw_below_drewN | apply below_drew1 | refine below_set ?_ (IsS91.ge HI0.out)) | exact HB.out), qq2⟩
  rw [if_pos c10] at H
  have c10b0 : decide (128 ≤ (wrap64 (bt s0_0 s0_1))) = true := decide_eq_true c10
  clear c10
  replace H := Option.bind_eq_some_iff.mp H
  obtain ⟨⟨t105, t106, t107, t108⟩, A110, H⟩ := H
  try dsimp -simprocs only at H
  have A11 := Aside0.mk A110
  clear A110
  simp only [Option.some.injEq, Prod.mk.injEq] at H
  obtain ⟨rfl, rfl, rfl, rfl, rfl⟩ := H
  obtain ⟨HGz12, hgz12⟩ := HI0.out
  have hcz12_0 := cellS91_0 HGz12
  have hcz12_1 := cellS91_1 HGz12
  have hcz12_2 := cellS91_2 HGz12
  have hcz12_3 := cellS91_3 HGz12
  have hfz12_0 := blk_frozen HGz12 0
  have hfz12_1 := blk_frozen HGz12 1
  have hfz12_2 := blk_frozen HGz12 2
  have hfz12_3 := blk_frozen HGz12 3
  clear HGz12 hgz12
  have p9 : 0 ≤ (s0_1 : Int) := of_decide_eq_true qq3
  have q9 : s0_1 < (s0_0.size : Int) := of_decide_eq_true qq3
  have hx9 := bt_at s0_0 s0_1
  replace p9 := eq_true p9
  replace q9 := eq_true q9
  go_enter Tryd.func52, Tryd.ntmps52
  go_wp2_with (first | (go_at_call 55; (with_reducible refine (wire_reader_fail.calls g s0_0 s0_1 s0_2 s0_3 151 t105 t106 t107 t108 w0 _ ?side1 ?side2 A11.out).mono ?_); (case side1 => exact qq1); (case side2 => repeat (first | (with_reducible first | exact HB.out | apply below_alloc | apply pw_below_drewN | apply below_drew1 | refine below_set ?_ (IsS91.ge HI0.out)) | exact HB.out)); rintro e w13 ⟨rfl, hi, hb, hk⟩; replace HK := Aside0.mk (KeepBut.trans qq2 hk (.inl rfl)); replace HB := Aside0.mk (hb); replace HI0 := Aside0.mk (hi); (try clear hb); (try clear hb2); (try clear hk); (try clear hi)))
  repeat (go_quiet (first | (go_at_call 55; (with_reducible refine (wire_reader_fail.calls g s0_0 s0_1 s0_2 s0_3 151 t105 t106 t107 t108 w0 _ ?side1 ?side2 A11.out).mono ?_); (case side1 => exact qq1); (case side2 => repeat (first | (with_reducible first | exact HB.out | apply below_alloc | apply pw_below_drewN | apply below_drew1 | refine below_set ?_ (IsS91.ge HI0.out)) | exact HB.out)); rintro e w13 ⟨rfl, hi, hb, hk⟩; replace HK := Aside0.mk (KeepBut.trans qq2 hk (.inl rfl)); replace HB := Aside0.mk (hb); replace HI0 := Aside0.mk (hi); (try clear hb); (try clear hb2); (try clear hk); (try clear hi))); try go_wp2_with (first | (go_at_call 55; (with_reducible refine (wire_reader_fail.calls g s0_0 s0_1 s0_2 s0_3 151 t105 t106 t107 t108 w0 _ ?side1 ?side2 A11.out).mono ?_); (case side1 => exact qq1); (case side2 => repeat (first | (with_reducible first | exact HB.out | apply below_alloc | apply pw_below_drewN | apply below_drew1 | refine below_set ?_ (IsS91.ge HI0.out)) | exact HB.out)); rintro e w13 ⟨rfl, hi, hb, hk⟩; replace HK := Aside0.mk (KeepBut.trans qq2 hk (.inl rfl)); replace HB := Aside0.mk (hb); replace HI0 := Aside0.mk (hi); (try clear hb); (try clear hb2); (try clear hk); (try clear hi))))
  go_ret
  exact ⟨qq4, qq1, by repeat (first | (with_reducible first | exact HB.out | apply below_alloc | apply pw_below_drewN | apply below_drew1 | refine below_set ?_ (IsS91.ge HI0.out)) | exact HB.out), qq2⟩
def wire_reader_bytes.f (k : Nat) (s0_0 : ByteArray) (s0_1 : Int) (s0_2 : Int) (s0_3 : Int) : Option (ByteArray × ByteArray × Int × Int × Int) := (wire_reader_number.f k s0_0 s0_1 s0_2 s0_3).bind fun bt101 => (if bt101.2.2.2.2 = 0 then (if bt101.1 > 100000 then ((wire_reader_fail.f bt101.2.1 bt101.2.2.1 bt101.2.2.2.1 bt101.2.2.2.2 151).bind fun bt106 => (some ((⟨#[]⟩ : ByteArray), bt106.1, bt106.2.1, bt106.2.2.1, bt106.2.2.2))) else (if (wrap64 (bt101.2.2.1 + bt101.1)) > (bt101.2.1.size : Int) then ((wire_reader_fail.f bt101.2.1 bt101.2.2.1 bt101.2.2.2.1 bt101.2.2.2.2 152).bind fun bt110 => (some ((⟨#[]⟩ : ByteArray), bt110.1, bt110.2.1, bt110.2.2.1, bt110.2.2.2))) else (if 0 ≤ bt101.2.2.1 then (if bt101.2.2.1 ≤ (wrap64 (bt101.2.2.1 + bt101.1)) then (if (wrap64 (bt101.2.2.1 + bt101.1)) ≤ (bt101.2.1.size : Int) then (some (bt101.2.1.extract (bt101.2.2.1 : Int).toNat ((wrap64 (bt101.2.2.1 + bt101.1)) : Int).toNat, bt101.2.1, wrap64 (bt101.2.2.1 + bt101.1), bt101.2.2.2.1, bt101.2.2.2.2)) else (none)) else (none)) else (none)))) else (some ((⟨#[]⟩ : ByteArray), bt101.2.1, bt101.2.2.1, bt101.2.2.2.1, bt101.2.2.2.2)))
theorem wire_reader_bytes.mono : ∀ a0 a1 a2 a3 k, LeO (wire_reader_bytes.f k a0 a1 a2 a3) (wire_reader_bytes.f (k + 1) a0 a1 a2 a3) := by
  intro a0 a1 a2 a3 k
  unfold wire_reader_bytes.f
  repeat' first
      | (with_reducible exact wire_reader_number.mono _ _ _ _ _)
      | (with_reducible exact LeO.refl _)
      | (with_reducible exact LeO.none _)
      | (with_reducible refine LeO.ite ?_ ?_)
      | (with_reducible refine LeO.bind ?_ (fun _ => ?_))
      | exact wire_reader_number.mono _ _ _ _ _
      | exact LeO.none _
      | refine LeO.ite ?_ ?_
      | refine LeO.bind ?_ (fun _ => ?_)
set_option maxHeartbeats 8000000 in
set_option maxRecDepth 100000 in
theorem wire_reader_bytes.calls (k : Nat) (g : Nat) (s0_0 : ByteArray) (s0_1 : Int) (s0_2 : Int) (s0_3 : Int) (r1 : ByteArray) (r2 : ByteArray) (r3 : Int) (r4 : Int) (r5 : Int) (w0 w : World) (hI : IsS91 w0 w g s0_0 s0_1 s0_2 s0_3) (hB : Below w0.heap.size w0 w) (h : wire_reader_bytes.f k s0_0 s0_1 s0_2 s0_3 = some (r1, r2, r3, r4, r5)) :
    Calls Tryd.prog 53 #[.pointer (some ⟨g, 0, none⟩)] w fun e w' => e = .returned (.string r1) ∧ IsS91 w0 w' g r2 r3 r4 r5 ∧ Below w0.heap.size w0 w' ∧ KeepBut w w' g none := by
  have HI0 := Aside0.mk hI
  have HK := Aside0.mk (KeepBut.refl w g none)
  have HL := Aside0.mk hB.size
  clear hI
  have HW0 := Aside0.mk hB.size
  have HB := Aside0.mk hB
  clear hB
  have H := h
  unfold wire_reader_bytes.f at H
  clear h
  replace H := Option.bind_eq_some_iff.mp H
  obtain ⟨⟨t101, t102, t103, t104, t105⟩, A20, H⟩ := H
  try dsimp -simprocs only at H
  have A2 := Aside0.mk A20
  clear A20
  by_cases c3 : t105 = 0
  rotate_left
  · rw [if_neg c3] at H
    have c3b0 : (t105 == 0) = false := beq_eq_false_iff_ne.mpr c3
    have c3b1 : (t105 != 0) = true := bne_iff_ne.mpr c3
    simp only [Option.some.injEq, Prod.mk.injEq] at H
    obtain ⟨rfl, rfl, rfl, rfl, rfl⟩ := H
    go_enter Tryd.func53, Tryd.ntmps53
    go_wp2_with (first | (go_at_call 50; (with_reducible refine (wire_reader_number.calls k g s0_0 s0_1 s0_2 s0_3 t101 t102 t103 t104 t105 w0 _ ?side1 ?side2 A2.out).mono ?_); (case side1 => exact qq1); (case side2 => repeat (first | (with_reducible first | exact HB.out | apply below_alloc | apply pw_below_drewN | apply below_drew1 | refine below_set ?_ (IsS91.ge HI0.out)) | exact HB.out)); rintro e w19 ⟨rfl, hi, hb, hk⟩; replace HK := Aside0.mk (KeepBut.trans qq2 hk (.inl rfl)); replace HB := Aside0.mk (hb); replace HI0 := Aside0.mk (hi); (try clear hb); (try clear hb2); (try clear hk); (try clear hi); obtain ⟨HGz20, hgz20⟩ := HI0.out; have hcz20_0 := cellS91_0 HGz20; have hcz20_1 := cellS91_1 HGz20; have hcz20_2 := cellS91_2 HGz20; have hcz20_3 := cellS91_3 HGz20; have hfz20_0 := blk_frozen HGz20 0; have hfz20_1 := blk_frozen HGz20 1; have hfz20_2 := blk_frozen HGz20 2; have hfz20_3 := blk_frozen HGz20 3; clear HGz20 hgz20))
    repeat (go_quiet (first | (go_at_call 50; (with_reducible refine (wire_reader_number.calls k g s0_0 s0_1 s0_2 s0_3 t101 t102 t103 t104 t105 w0 _ ?side1 ?side2 A2.out).mono ?_); (case side1 => exact qq1); (case side2 => repeat (first | (with_reducible first | exact HB.out | apply below_alloc | apply pw_below_drewN | apply below_drew1 | refine below_set ?_ (IsS91.ge HI0.out)) | exact HB.out)); rintro e w19 ⟨rfl, hi, hb, hk⟩; replace HK := Aside0.mk (KeepBut.trans qq2 hk (.inl rfl)); replace HB := Aside0.mk (hb); replace HI0 := Aside0.mk (hi); (try clear hb); (try clear hb2); (try clear hk); (try clear hi); obtain ⟨HGz20, hgz20⟩ := HI0.out; have hcz20_0 := cellS91_0 HGz20; have hcz20_1 := cellS91_1 HGz20; have hcz20_2 := cellS91_2 HGz20; have hcz20_3 := cellS91_3 HGz20; have hfz20_0 := blk_frozen HGz20 0; have hfz20_1 := blk_frozen HGz20 1; have hfz20_2 := blk_frozen HGz20 2; have hfz20_3 := blk_frozen HGz20 3; clear HGz20 hgz20)); try go_wp2_with (first | (go_at_call 50; (with_reducible refine (wire_reader_number.calls k g s0_0 s0_1 s0_2 s0_3 t101 t102 t103 t104 t105 w0 _ ?side1 ?side2 A2.out).mono ?_); (case side1 => exact qq1); (case side2 => repeat (first | (with_reducible first | exact HB.out | apply below_alloc | apply pw_below_drewN | apply below_drew1 | refine below_set ?_ (IsS91.ge HI0.out)) | exact HB.out)); rintro e w19 ⟨rfl, hi, hb, hk⟩; replace HK := Aside0.mk (KeepBut.trans qq2 hk (.inl rfl)); replace HB := Aside0.mk (hb); replace HI0 := Aside0.mk (hi); (try clear hb); (try clear hb2); (try clear hk); (try clear hi); obtain ⟨HGz20, hgz20⟩ := HI0.out; have hcz20_0 := cellS91_0 HGz20; have hcz20_1 := cellS91_1 HGz20; have hcz20_2 := cellS91_2 HGz20; have hcz20_3 := cellS91_3 HGz20; have hfz20_0 := blk_frozen HGz20 0; have hfz20_1 := blk_frozen HGz20 1; have hfz20_2 := blk_frozen HGz20 2; have hfz20_3 := blk_frozen HGz20 3; clear HGz20 hgz20)))
    go_ret
    exact ⟨qq4, qq1, by repeat (first | (with_reducible first | exact HB.out | apply below_alloc | apply pw_below_drewN | apply below_drew1 | refine below_set ?_ (IsS91.ge HI0.out)) | exact HB.out), qq2⟩
  rw [if_pos c3] at H
  have c3b0 : (t105 == 0) = true := beq_iff_eq.mpr c3
  have c3b1 : (t105 != 0) = false := bne_eq_false_iff_eq.mpr c3
  clear c3
  by_cases c4 : t101 > 100000
  · rw [if_pos c4] at H
    have c4b0 : decide (100000 < t101) = true := decide_eq_true c4
    clear c4
    replace H := Option.bind_eq_some_iff.mp H
    obtain ⟨⟨t106, t107, t108, t109⟩, A50, H⟩ := H
    try dsimp -simprocs only at H
    have A5 := Aside0.mk A50
    clear A50
    simp only [Option.some.injEq, Prod.mk.injEq] at H
    obtain ⟨rfl, rfl, rfl, rfl, rfl⟩ := H
    go_enter Tryd.func53, Tryd.ntmps53
    go_wp2_with (first | (go_at_call 50; (with_reducible refine (wire_reader_number.calls k g s0_0 s0_1 s0_2 s0_3 t101 t102 t103 t104 t105 w0 _ ?side1 ?side2 A2.out).mono ?_); (case side1 => exact qq1); (case side2 => repeat (first | (with_reducible first | exact HB.out | apply below_alloc | apply pw_below_drewN | apply below_drew1 | refine below_set ?_ (IsS91.ge HI0.out)) | exact HB.out)); rintro e w6 ⟨rfl, hi, hb, hk⟩; replace HK := Aside0.mk (KeepBut.trans qq2 hk (.inl rfl)); replace HB := Aside0.mk (hb); replace HI0 := Aside0.mk (hi); (try clear hb); (try clear hb2); (try clear hk); (try clear hi); obtain ⟨HGz7, hgz7⟩ := HI0.out; have hcz7_0 := cellS91_0 HGz7; have hcz7_1 := cellS91_1 HGz7; have hcz7_2 := cellS91_2 HGz7; have hcz7_3 := cellS91_3 HGz7; have hfz7_0 := blk_frozen HGz7 0; have hfz7_1 := blk_frozen HGz7 1; have hfz7_2 := blk_frozen HGz7 2; have hfz7_3 := blk_frozen HGz7 3; clear HGz7 hgz7) | (go_at_call 55; (with_reducible refine (wire_reader_fail.calls g t102 t103 t104 t105 151 t106 t107 t108 t109 w0 _ ?side1 ?side2 A5.out).mono ?_); (case side1 => exact qq1); (case side2 => repeat (first | (with_reducible first | exact HB.out | apply below_alloc | apply pw_below_drewN | apply below_drew1 | refine below_set ?_ (IsS91.ge HI0.out)) | exact HB.out)); rintro e w8 ⟨rfl, hi, hb, hk⟩; replace HK := Aside0.mk (KeepBut.trans qq2 hk (.inl rfl)); replace HB := Aside0.mk (hb); replace HI0 := Aside0.mk (hi); (try clear hb); (try clear hb2); (try clear hk); (try clear hi)))
    repeat (go_quiet (first | (go_at_call 50; (with_reducible refine (wire_reader_number.calls k g s0_0 s0_1 s0_2 s0_3 t101 t102 t103 t104 t105 w0 _ ?side1 ?side2 A2.out).mono ?_); (case side1 => exact qq1); (case side2 => repeat (first | (with_reducible first | exact HB.out | apply below_alloc | apply pw_below_drewN | apply below_drew1 | refine below_set ?_ (IsS91.ge HI0.out)) | exact HB.out)); rintro e w6 ⟨rfl, hi, hb, hk⟩; replace HK := Aside0.mk (KeepBut.trans qq2 hk (.inl rfl)); replace HB := Aside0.mk (hb); replace HI0 := Aside0.mk (hi); (try clear hb); (try clear hb2); (try clear hk); (try clear hi); obtain ⟨HGz7, hgz7⟩ := HI0.out; have hcz7_0 := cellS91_0 HGz7; have hcz7_1 := cellS91_1 HGz7; have hcz7_2 := cellS91_2 HGz7; have hcz7_3 := cellS91_3 HGz7; have hfz7_0 := blk_frozen HGz7 0; have hfz7_1 := blk_frozen HGz7 1; have hfz7_2 := blk_frozen HGz7 2; have hfz7_3 := blk_frozen HGz7 3; clear HGz7 hgz7) | (go_at_call 55; (with_reducible refine (wire_reader_fail.calls g t102 t103 t104 t105 151 t106 t107 t108 t109 w0 _ ?side1 ?side2 A5.out).mono ?_); (case side1 => exact qq1); (case side2 => repeat (first | (with_reducible first | exact HB.out | apply below_alloc | apply pw_below_drewN | apply below_drew1 | refine below_set ?_ (IsS91.ge HI0.out)) | exact HB.out)); rintro e w8 ⟨rfl, hi, hb, hk⟩; replace HK := Aside0.mk (KeepBut.trans qq2 hk (.inl rfl)); replace HB := Aside0.mk (hb); replace HI0 := Aside0.mk (hi); (try clear hb); (try clear hb2); (try clear hk); (try clear hi))); try go_wp2_with (first | (go_at_call 50; (with_reducible refine (wire_reader_number.calls k g s0_0 s0_1 s0_2 s0_3 t101 t102 t103 t104 t105 w0 _ ?side1 ?side2 A2.out).mono ?_); (case side1 => exact qq1); (case side2 => repeat (first | (with_reducible first | exact HB.out | apply below_alloc | apply pw_below_drewN | apply below_drew1 | refine below_set ?_ (IsS91.ge HI0.out)) | exact HB.out)); rintro e w6 ⟨rfl, hi, hb, hk⟩; replace HK := Aside0.mk (KeepBut.trans qq2 hk (.inl rfl)); replace HB := Aside0.mk (hb); replace HI0 := Aside0.mk (hi); (try clear hb); (try clear hb2); (try clear hk); (try clear hi); obtain ⟨HGz7, hgz7⟩ := HI0.out; have hcz7_0 := cellS91_0 HGz7; have hcz7_1 := cellS91_1 HGz7; have hcz7_2 := cellS91_2 HGz7; have hcz7_3 := cellS91_3 HGz7; have hfz7_0 := blk_frozen HGz7 0; have hfz7_1 := blk_frozen HGz7 1; have hfz7_2 := blk_frozen HGz7 2; have hfz7_3 := blk_frozen HGz7 3; clear HGz7 hgz7) | (go_at_call 55; (with_reducible refine (wire_reader_fail.calls g t102 t103 t104 t105 151 t106 t107 t108 t109 w0 _ ?side1 ?side2 A5.out).mono ?_); (case side1 => exact qq1); (case side2 => repeat (first | (with_reducible first | exact HB.out | apply below_alloc | apply pw_below_drewN | apply below_drew1 | refine below_set ?_ (IsS91.ge HI0.out)) | exact HB.out)); rintro e w8 ⟨rfl, hi, hb, hk⟩; replace HK := Aside0.mk (KeepBut.trans qq2 hk (.inl rfl)); replace HB := Aside0.mk (hb); replace HI0 := Aside0.mk (hi); (try clear hb); (try clear hb2); (try clear hk); (try clear hi))))
    go_ret
    exact ⟨qq4, qq1, by repeat (first | (with_reducible first | exact HB.out | apply below_alloc | apply pw_below_drewN | apply below_drew1 | refine below_set ?_ (IsS91.ge HI0.out)) | exact HB.out), qq2⟩
  rw [if_neg c4] at H
  have c4b0 : decide (100000 < t101) = false := decide_eq_false c4
  clear c4
  by_cases c9 : (wrap64 (t103 + t101)) > (t102.size : Int)
  · rw [if_pos c9] at H
    have c9b0 : decide ((t102.size : Int) < (wrap64 (t103 + t101))) = true := decide_eq_true c9
    clear c9
    replace H := Option.bind_eq_some_iff.mp H
    obtain ⟨⟨t110, t111, t112, t113⟩, A100, H⟩ := H
    try dsimp -simprocs only at H
    have A10 := Aside0.mk A100
    clear A100
    simp only [Option.some.injEq, Prod.mk.injEq] at H
    obtain ⟨rfl, rfl, rfl, rfl, rfl⟩ := H
    go_enter Tryd.func53, Tryd.ntmps53
    go_wp2_with (first | (go_at_call 50; (with_reducible refine (wire_reader_number.calls k g s0_0 s0_1 s0_2 s0_3 t101 t102 t103 t104 t105 w0 _ ?side1 ?side2 A2.out).mono ?_); (case side1 => exact qq1); (case side2 => repeat (first | (with_reducible first | exact HB.out | apply below_alloc | apply pw_below_drewN | apply below_drew1 | refine below_set ?_ (IsS91.ge HI0.out)) | exact HB.out)); rintro e w11 ⟨rfl, hi, hb, hk⟩; replace HK := Aside0.mk (KeepBut.trans qq2 hk (.inl rfl)); replace HB := Aside0.mk (hb); replace HI0 := Aside0.mk (hi); (try clear hb); (try clear hb2); (try clear hk); (try clear hi); obtain ⟨HGz12, hgz12⟩ := HI0.out; have hcz12_0 := cellS91_0 HGz12; have hcz12_1 := cellS91_1 HGz12; have hcz12_2 := cellS91_2 HGz12; have hcz12_3 := cellS91_3 HGz12; have hfz12_0 := blk_frozen HGz12 0; have hfz12_1 := blk_frozen HGz12 1; have hfz12_2 := blk_frozen HGz12 2; have hfz12_3 := blk_frozen HGz12 3; clear HGz12 hgz12) | (go_at_call 55; (with_reducible refine (wire_reader_fail.calls g t102 t103 t104 t105 152 t110 t111 t112 t113 w0 _ ?side1 ?side2 A10.out).mono ?_); (case side1 => exact qq1); (case side2 => repeat (first | (with_reducible first | exact HB.out | apply below_alloc | apply pw_below_drewN | apply below_drew1 | refine below_set ?_ (IsS91.ge HI0.out)) | exact HB.out)); rintro e w13 ⟨rfl, hi, hb, hk⟩; replace HK := Aside0.mk (KeepBut.trans qq2 hk (.inl rfl)); replace HB := Aside0.mk (hb); replace HI0 := Aside0.mk (hi); (try clear hb); (try clear hb2); (try clear hk); (try clear hi)))
    repeat (go_quiet (first | (go_at_call 50; (with_reducible refine (wire_reader_number.calls k g s0_0 s0_1 s0_2 s0_3 t101 t102 t103 t104 t105 w0 _ ?side1 ?side2 A2.out).mono ?_); (case side1 => exact qq1); (case side2 => repeat (first | (with_reducible first | exact HB.out | apply below_alloc | apply pw_below_drewN | apply below_drew1 | refine below_set ?_ (IsS91.ge HI0.out)) | exact HB.out)); rintro e w11 ⟨rfl, hi, hb, hk⟩; replace HK := Aside0.mk (KeepBut.trans qq2 hk (.inl rfl)); replace HB := Aside0.mk (hb); replace HI0 := Aside0.mk (hi); (try clear hb); (try clear hb2); (try clear hk); (try clear hi); obtain ⟨HGz12, hgz12⟩ := HI0.out; have hcz12_0 := cellS91_0 HGz12; have hcz12_1 := cellS91_1 HGz12; have hcz12_2 := cellS91_2 HGz12; have hcz12_3 := cellS91_3 HGz12; have hfz12_0 := blk_frozen HGz12 0; have hfz12_1 := blk_frozen HGz12 1; have hfz12_2 := blk_frozen HGz12 2; have hfz12_3 := blk_frozen HGz12 3; clear HGz12 hgz12) | (go_at_call 55; (with_reducible refine (wire_reader_fail.calls g t102 t103 t104 t105 152 t110 t111 t112 t113 w0 _ ?side1 ?side2 A10.out).mono ?_); (case side1 => exact qq1); (case side2 => repeat (first | (with_reducible first | exact HB.out | apply below_alloc | apply pw_below_drewN | apply below_drew1 | refine below_set ?_ (IsS91.ge HI0.out)) | exact HB.out)); rintro e w13 ⟨rfl, hi, hb, hk⟩; replace HK := Aside0.mk (KeepBut.trans qq2 hk (.inl rfl)); replace HB := Aside0.mk (hb); replace HI0 := Aside0.mk (hi); (try clear hb); (try clear hb2); (try clear hk); (try clear hi))); try go_wp2_with (first | (go_at_call 50; (with_reducible refine (wire_reader_number.calls k g s0_0 s0_1 s0_2 s0_3 t101 t102 t103 t104 t105 w0 _ ?side1 ?side2 A2.out).mono ?_); (case side1 => exact qq1); (case side2 => repeat (first | (with_reducible first | exact HB.out | apply below_alloc | apply pw_below_drewN | apply below_drew1 | refine below_set ?_ (IsS91.ge HI0.out)) | exact HB.out)); rintro e w11 ⟨rfl, hi, hb, hk⟩; replace HK := Aside0.mk (KeepBut.trans qq2 hk (.inl rfl)); replace HB := Aside0.mk (hb); replace HI0 := Aside0.mk (hi); (try clear hb); (try clear hb2); (try clear hk); (try clear hi); obtain ⟨HGz12, hgz12⟩ := HI0.out; have hcz12_0 := cellS91_0 HGz12; have hcz12_1 := cellS91_1 HGz12; have hcz12_2 := cellS91_2 HGz12; have hcz12_3 := cellS91_3 HGz12; have hfz12_0 := blk_frozen HGz12 0; have hfz12_1 := blk_frozen HGz12 1; have hfz12_2 := blk_frozen HGz12 2; have hfz12_3 := blk_frozen HGz12 3; clear HGz12 hgz12) | (go_at_call 55; (with_reducible refine (wire_reader_fail.calls g t102 t103 t104 t105 152 t110 t111 t112 t113 w0 _ ?side1 ?side2 A10.out).mono ?_); (case side1 => exact qq1); (case side2 => repeat (first | (with_reducible first | exact HB.out | apply below_alloc | apply pw_below_drewN | apply below_drew1 | refine below_set ?_ (IsS91.ge HI0.out)) | exact HB.out)); rintro e w13 ⟨rfl, hi, hb, hk⟩; replace HK := Aside0.mk (KeepBut.trans qq2 hk (.inl rfl)); replace HB := Aside0.mk (hb); replace HI0 := Aside0.mk (hi); (try clear hb); (try clear hb2); (try clear hk); (try clear hi))))
    go_ret
    exact ⟨qq4, qq1, by repeat (first | (with_reducible first | exact HB.out | apply below_alloc | apply pw_below_drewN | apply below_drew1 | refine below_set ?_ (IsS91.ge HI0.out)) | exact HB.out), qq2⟩
  rw [if_neg c9] at H
  have c9b0 : decide ((t102.size : Int) < (wrap64 (t103 + t101))) = false := decide_eq_false c9
  clear c9
  by_cases c14 : 0 ≤ t103
  rotate_left
  · rw [if_neg c14] at H
    exact absurd H (by simp)
  rw [if_pos c14] at H
  have c14b0 := eq_true c14
  have c14b1 : decide (0 ≤ t103) = true := decide_eq_true c14
  clear c14
  by_cases c15 : t103 ≤ (wrap64 (t103 + t101))
  rotate_left
  · rw [if_neg c15] at H
    exact absurd H (by simp)
  rw [if_pos c15] at H
  have c15b0 := eq_true c15
  have c15b1 : decide (t103 ≤ (wrap64 (t103 + t101))) = true := decide_eq_true c15
  by_cases c16 : (wrap64 (t103 + t101)) ≤ (t102.size : Int)
  rotate_left
  · rw [if_neg c16] at H
    exact absurd H (by simp)
  rw [if_pos c16] at H
  have c16b0 := eq_true c16
  have c16b1 : decide ((wrap64 (t103 + t101)) ≤ (t102.size : Int)) = true := decide_eq_true c16
  simp only [Option.some.injEq, Prod.mk.injEq] at H
  obtain ⟨rfl, rfl, rfl, rfl, rfl⟩ := H
  go_enter Tryd.func53, Tryd.ntmps53
  go_wp2_with (first | (go_at_call 50; (with_reducible refine (wire_reader_number.calls k g s0_0 s0_1 s0_2 s0_3 t101 t102 t103 t104 t105 w0 _ ?side1 ?side2 A2.out).mono ?_); (case side1 => exact qq1); (case side2 => repeat (first | (with_reducible first | exact HB.out | apply below_alloc | apply pw_below_drewN | apply below_drew1 | refine below_set ?_ (IsS91.ge HI0.out)) | exact HB.out)); rintro e w17 ⟨rfl, hi, hb, hk⟩; replace HK := Aside0.mk (KeepBut.trans qq2 hk (.inl rfl)); replace HB := Aside0.mk (hb); replace HI0 := Aside0.mk (hi); (try clear hb); (try clear hb2); (try clear hk); (try clear hi); obtain ⟨HGz18, hgz18⟩ := HI0.out; have hcz18_0 := cellS91_0 HGz18; have hcz18_1 := cellS91_1 HGz18; have hcz18_2 := cellS91_2 HGz18; have hcz18_3 := cellS91_3 HGz18; have hfz18_0 := blk_frozen HGz18 0; have hfz18_1 := blk_frozen HGz18 1; have hfz18_2 := blk_frozen HGz18 2; have hfz18_3 := blk_frozen HGz18 3; clear HGz18 hgz18))
  repeat (go_quiet (first | (go_at_call 50; (with_reducible refine (wire_reader_number.calls k g s0_0 s0_1 s0_2 s0_3 t101 t102 t103 t104 t105 w0 _ ?side1 ?side2 A2.out).mono ?_); (case side1 => exact qq1); (case side2 => repeat (first | (with_reducible first | exact HB.out | apply below_alloc | apply pw_below_drewN | apply below_drew1 | refine below_set ?_ (IsS91.ge HI0.out)) | exact HB.out)); rintro e w17 ⟨rfl, hi, hb, hk⟩; replace HK := Aside0.mk (KeepBut.trans qq2 hk (.inl rfl)); replace HB := Aside0.mk (hb); replace HI0 := Aside0.mk (hi); (try clear hb); (try clear hb2); (try clear hk); (try clear hi); obtain ⟨HGz18, hgz18⟩ := HI0.out; have hcz18_0 := cellS91_0 HGz18; have hcz18_1 := cellS91_1 HGz18; have hcz18_2 := cellS91_2 HGz18; have hcz18_3 := cellS91_3 HGz18; have hfz18_0 := blk_frozen HGz18 0; have hfz18_1 := blk_frozen HGz18 1; have hfz18_2 := blk_frozen HGz18 2; have hfz18_3 := blk_frozen HGz18 3; clear HGz18 hgz18)); try go_wp2_with (first | (go_at_call 50; (with_reducible refine (wire_reader_number.calls k g s0_0 s0_1 s0_2 s0_3 t101 t102 t103 t104 t105 w0 _ ?side1 ?side2 A2.out).mono ?_); (case side1 => exact qq1); (case side2 => repeat (first | (with_reducible first | exact HB.out | apply below_alloc | apply pw_below_drewN | apply below_drew1 | refine below_set ?_ (IsS91.ge HI0.out)) | exact HB.out)); rintro e w17 ⟨rfl, hi, hb, hk⟩; replace HK := Aside0.mk (KeepBut.trans qq2 hk (.inl rfl)); replace HB := Aside0.mk (hb); replace HI0 := Aside0.mk (hi); (try clear hb); (try clear hb2); (try clear hk); (try clear hi); obtain ⟨HGz18, hgz18⟩ := HI0.out; have hcz18_0 := cellS91_0 HGz18; have hcz18_1 := cellS91_1 HGz18; have hcz18_2 := cellS91_2 HGz18; have hcz18_3 := cellS91_3 HGz18; have hfz18_0 := blk_frozen HGz18 0; have hfz18_1 := blk_frozen HGz18 1; have hfz18_2 := blk_frozen HGz18 2; have hfz18_3 := blk_frozen HGz18 3; clear HGz18 hgz18)))
  go_ret
  exact ⟨qq4, qq1, by repeat (first | (with_reducible first | exact HB.out | apply below_alloc | apply pw_below_drewN | apply below_drew1 | refine below_set ?_ (IsS91.ge HI0.out)) | exact HB.out), qq2⟩
def wire_reader_message.f (k : Nat) (s0_0 : ByteArray) (s0_1 : Int) (s0_2 : Int) (s0_3 : Int) : Option (Int × Int × Int × Int × Int × ByteArray × ByteArray × Int × Int × Int) := (wire_reader_number.f k s0_0 s0_1 s0_2 s0_3).bind fun bt102 => ((wire_reader_status.f bt102.2.1 bt102.2.2.1 bt102.2.2.2.1 bt102.2.2.2.2).bind fun bt108 => (if bt108.1 = 255 then ((wire_reader_data.f bt108.2.1 bt108.2.2.1 0 bt108.2.2.2.2).bind fun bt113 => ((wire_reader_bytes.f k bt113.2.1 bt113.2.2.1 bt113.2.2.2.1 bt113.2.2.2.2).bind fun bt118 => (some (bt102.1, 16, 0, bt113.1, 0, bt118.1, bt118.2.1, bt118.2.2.1, bt118.2.2.2.1, bt118.2.2.2.2)))) else (if bt108.1 ≥ 240 then ((wire_reader_bytes.f k bt108.2.1 bt108.2.2.1 0 bt108.2.2.2.2).bind fun bt123 => (some (bt102.1, 15, 0, bt108.1, 0, bt123.1, bt123.2.1, bt123.2.2.1, bt123.2.2.2.1, bt123.2.2.2.2))) else ((wire_reader_data.f bt108.2.1 bt108.2.2.1 bt108.1 bt108.2.2.2.2).bind fun bt128 => ((wire_one.f (wrap64 (Int.tdiv bt108.1 16))).bind fun t133 => (if t133 = true then (some (bt102.1, wrap64 (Int.tdiv bt108.1 16), Int.tmod bt108.1 16, bt128.1, 0, (⟨#[]⟩ : ByteArray), bt128.2.1, bt128.2.2.1, bt128.2.2.2.1, bt128.2.2.2.2)) else ((wire_reader_data.f bt128.2.1 bt128.2.2.1 bt128.2.2.2.1 bt128.2.2.2.2).bind fun bt134 => (some (bt102.1, wrap64 (Int.tdiv bt108.1 16), Int.tmod bt108.1 16, bt128.1, bt134.1, (⟨#[]⟩ : ByteArray), bt134.2.1, bt134.2.2.1, bt134.2.2.2.1, bt134.2.2.2.2)))))))))
theorem wire_reader_message.mono : ∀ a0 a1 a2 a3 k, LeO (wire_reader_message.f k a0 a1 a2 a3) (wire_reader_message.f (k + 1) a0 a1 a2 a3) := by
  intro a0 a1 a2 a3 k
  unfold wire_reader_message.f
  repeat' first
      | (with_reducible exact wire_reader_bytes.mono _ _ _ _ _)
      | (with_reducible exact wire_reader_number.mono _ _ _ _ _)
      | (with_reducible exact LeO.refl _)
      | (with_reducible exact LeO.none _)
      | (with_reducible refine LeO.ite ?_ ?_)
      | (with_reducible refine LeO.bind ?_ (fun _ => ?_))
      | exact wire_reader_bytes.mono _ _ _ _ _
      | exact wire_reader_number.mono _ _ _ _ _
      | exact LeO.none _
      | refine LeO.ite ?_ ?_
      | refine LeO.bind ?_ (fun _ => ?_)
set_option maxHeartbeats 8000000 in
set_option maxRecDepth 100000 in
theorem wire_reader_message.calls (k : Nat) (g : Nat) (s0_0 : ByteArray) (s0_1 : Int) (s0_2 : Int) (s0_3 : Int) (r1 : Int) (r2 : Int) (r3 : Int) (r4 : Int) (r5 : Int) (r6 : ByteArray) (r7 : ByteArray) (r8 : Int) (r9 : Int) (r10 : Int) (w0 w : World) (hI : IsS91 w0 w g s0_0 s0_1 s0_2 s0_3) (hB : Below w0.heap.size w0 w) (h : wire_reader_message.f k s0_0 s0_1 s0_2 s0_3 = some (r1, r2, r3, r4, r5, r6, r7, r8, r9, r10)) :
    Calls Tryd.prog 49 #[.pointer (some ⟨g, 0, none⟩)] w fun e w' => e = .returned (.agg #[.int .i64 r1, .int .i64 r2, .int .i64 r3, .int .i64 r4, .int .i64 r5, .string r6]) ∧ IsS91 w0 w' g r7 r8 r9 r10 ∧ Below w0.heap.size w0 w' ∧ KeepBut w w' g none := by
  have hu39 := Tryd.underlying39
  have HI0 := Aside0.mk hI
  have HK := Aside0.mk (KeepBut.refl w g none)
  have HL := Aside0.mk hB.size
  clear hI
  have HW0 := Aside0.mk hB.size
  have HB := Aside0.mk hB
  clear hB
  have H := h
  unfold wire_reader_message.f at H
  clear h
  replace H := Option.bind_eq_some_iff.mp H
  obtain ⟨⟨t102, t103, t104, t105, t106⟩, A20, H⟩ := H
  try dsimp -simprocs only at H
  have A2 := Aside0.mk A20
  clear A20
  replace H := Option.bind_eq_some_iff.mp H
  obtain ⟨⟨t108, t109, t110, t111, t112⟩, A30, H⟩ := H
  try dsimp -simprocs only at H
  have A3 := Aside0.mk A30
  clear A30
  by_cases c4 : t108 = 255
  · rw [if_pos c4] at H
    have c4b0 : (t108 == 255) = true := beq_iff_eq.mpr c4
    have c4b1 : (t108 != 255) = false := bne_eq_false_iff_eq.mpr c4
    clear c4
    replace H := Option.bind_eq_some_iff.mp H
    obtain ⟨⟨t113, t114, t115, t116, t117⟩, A50, H⟩ := H
    try dsimp -simprocs only at H
    have A5 := Aside0.mk A50
    clear A50
    replace H := Option.bind_eq_some_iff.mp H
    obtain ⟨⟨t118, t119, t120, t121, t122⟩, A60, H⟩ := H
    try dsimp -simprocs only at H
    have A6 := Aside0.mk A60
    clear A60
    simp only [Option.some.injEq, Prod.mk.injEq] at H
    obtain ⟨rfl, rfl, rfl, rfl, rfl, rfl, rfl, rfl, rfl, rfl⟩ := H
    go_enter Tryd.func49, Tryd.ntmps49
    go_wp2_with (first | ((with_reducible refine gate_dst (N := 2) rfl ?_); refine box_event ?hg (N := 2) ?hd (cs := #[.int .i64 0, .int .i64 0, .int .i64 0, .int .i64 0, .int .i64 0, .string (⟨#[]⟩ : ByteArray)]) (t := 39) ?hr ?_; (case hd => rfl); (case hg => rfl); (case hr => exact qq8); intro gb101 hg w7 hbox hb; replace HB := Aside0.mk (below_step (by repeat (first | (with_reducible first | exact HB.out | apply below_alloc | apply pw_below_drewN | apply below_drew1 | refine below_set ?_ (IsS91.ge HI0.out)) | exact HB.out)) hb); have BK101 := Aside0.mk (hbox); have GW101 := Aside0.mk ((qqr : w.heap.size ≤ gb101)); have GE101 := Aside0.mk ((Nat.le_trans HW0.out (qqr : w.heap.size ≤ gb101) : w0.heap.size ≤ gb101)); replace HK := Aside0.mk (KeepBut.trans qq2 (KeepBut.of_below hb g none) (.inl rfl)); have NB0_101 := Aside0.mk ((qqp : g ≠ gb101)); have NB101_0 := Aside0.mk ((qqq : gb101 ≠ g)); replace HI0 := Aside0.mk (IsS91.below qq1 hb); clear hb hbox hg) | ((with_reducible refine gate_callee (f := 50) rfl ?_); refine goesL_ (some 6) rfl rfl Tryd.func50 (by kernel_rfl) rfl #[.pointer (some ⟨g, 0, none⟩)] rfl qq0 ?_; (with_reducible refine (wire_reader_number.calls k g s0_0 s0_1 s0_2 s0_3 t102 t103 t104 t105 t106 w0 _ ?side1 ?side2 A2.out).mono ?_); (case side1 => repeat (first | (with_reducible first | exact HI0.out | apply IsS91.alloc | apply IsS91.drewN | apply IsS91.drew | apply IsS91.set_0 | apply IsS91.set_1 | apply IsS91.set_2 | apply IsS91.set_3 | refine IsS91.far ?_ NB0_101.out _) | exact HI0.out)); (case side2 => repeat (first | (with_reducible first | exact HB.out | apply below_alloc | apply pw_below_drewN | apply below_drew1 | refine below_set ?_ (IsS91.ge HI0.out) | refine below_set ?_ GE101.out) | exact HB.out)); rintro e w8 ⟨rfl, hi, hb, hk⟩; refine ⟨_, rfl, ?_⟩; replace BK101 := Aside0.mk (KeepBut.blk hk (g' := gb101) (o := .cells #[.int .i64 0, .int .i64 0, .int .i64 0, .int .i64 0, .int .i64 0, .string (⟨#[]⟩ : ByteArray)] 39 (0, 0)) (bq BK101.out) NB101_0.out (by simp)); replace HK := Aside0.mk (KeepBut.trans (by repeat (first | (with_reducible first | exact HK.out | apply KeepBut.set_ | apply keep_drewN | apply keep_drew | apply keep_alloc | refine keep_far ?_ GW101.out _) | exact HK.out)) hk (.inl rfl)); replace HB := Aside0.mk (hb); replace HI0 := Aside0.mk (hi); (try clear hb); (try clear hb2); (try clear hk); (try clear hi)) | ((with_reducible refine gate_dst (N := 3) rfl ?_); refine box_event ?hg (N := 3) ?hd (cs := #[.int .i64 0, .int .i64 0, .int .i64 0, .int .i64 0, .int .i64 0, .string (⟨#[]⟩ : ByteArray)]) (t := 39) ?hr ?_; (case hd => rfl); (case hg => rfl); (case hr => exact qq8); intro gb107 hg w9 hbox hb; replace HB := Aside0.mk (below_step (by repeat (first | (with_reducible first | exact HB.out | apply below_alloc | apply pw_below_drewN | apply below_drew1 | refine below_set ?_ (IsS91.ge HI0.out) | refine below_set ?_ GE101.out) | exact HB.out)) hb); have BK107 := Aside0.mk (hbox); have GW107 := Aside0.mk ((by rw [hg]; exact (keep_size (w := w) (g := g) (row := none) (by repeat (first | (with_reducible first | exact HK.out | apply KeepBut.set_ | apply keep_drewN | apply keep_drew | apply keep_alloc | refine keep_far ?_ GW101.out _) | exact HK.out))) : w.heap.size ≤ gb107)); have GE107 := Aside0.mk ((Nat.le_trans HW0.out (by rw [hg]; exact (keep_size (w := w) (g := g) (row := none) (by repeat (first | (with_reducible first | exact HK.out | apply KeepBut.set_ | apply keep_drewN | apply keep_drew | apply keep_alloc | refine keep_far ?_ GW101.out _) | exact HK.out))) : w.heap.size ≤ gb107) : w0.heap.size ≤ gb107)); replace HK := Aside0.mk (KeepBut.trans (by repeat (first | (with_reducible first | exact HK.out | apply KeepBut.set_ | apply keep_drewN | apply keep_drew | apply keep_alloc | refine keep_far ?_ GW101.out _) | exact HK.out)) (KeepBut.of_below hb g none) (.inl rfl)); have NB101_107 := Aside0.mk ((qqc : gb101 ≠ gb107)); have NB107_101 := Aside0.mk ((qqd : gb107 ≠ gb101)); replace BK101 := Aside0.mk (blk_below (bq BK101.out) hb); have NB0_107 := Aside0.mk ((by rw [hg]; exact Nat.ne_of_lt (IsS91.lt (show IsS91 w0 _ g t103 t104 t105 t106 from by repeat (first | (with_reducible first | exact HI0.out | apply IsS91.alloc | apply IsS91.drewN | apply IsS91.drew | apply IsS91.set_0 | apply IsS91.set_1 | apply IsS91.set_2 | apply IsS91.set_3 | refine IsS91.far ?_ NB0_101.out _) | exact HI0.out))) : g ≠ gb107)); have NB107_0 := Aside0.mk ((by rw [hg]; exact Nat.ne_of_gt (IsS91.lt (show IsS91 w0 _ g t103 t104 t105 t106 from by repeat (first | (with_reducible first | exact HI0.out | apply IsS91.alloc | apply IsS91.drewN | apply IsS91.drew | apply IsS91.set_0 | apply IsS91.set_1 | apply IsS91.set_2 | apply IsS91.set_3 | refine IsS91.far ?_ NB0_101.out _) | exact HI0.out))) : gb107 ≠ g)); replace HI0 := Aside0.mk (IsS91.below (by repeat (first | (with_reducible first | exact HI0.out | apply IsS91.alloc | apply IsS91.drewN | apply IsS91.drew | apply IsS91.set_0 | apply IsS91.set_1 | apply IsS91.set_2 | apply IsS91.set_3 | refine IsS91.far ?_ NB0_101.out _) | exact HI0.out)) hb); clear hb hbox hg; have hnb10 := NB107_101.out; have hnc10 := NB101_107.out; have hnb11 := NB107_0.out; have hnc11 := NB0_107.out; obtain ⟨hcz12_0, hcz12_1, hcz12_2, hcz12_3, hcz12_4, hcz12_5, hfz12_0, hfz12_1, hfz12_2, hfz12_3, hfz12_4, hfz12_5⟩ := blk6 BK107.out) | ((with_reducible refine gate_callee (f := 51) rfl ?_); refine goesL_ (some 9) rfl rfl Tryd.func51 (by kernel_rfl) rfl #[.pointer (some ⟨g, 0, none⟩)] rfl qq0 ?_; (with_reducible refine (wire_reader_status.calls g t103 t104 t105 t106 t108 t109 t110 t111 t112 w0 _ ?side1 ?side2 A3.out).mono ?_); (case side1 => repeat (first | (with_reducible first | exact HI0.out | apply IsS91.alloc | apply IsS91.drewN | apply IsS91.drew | apply IsS91.set_0 | apply IsS91.set_1 | apply IsS91.set_2 | apply IsS91.set_3 | refine IsS91.far ?_ NB0_101.out _ | refine IsS91.far ?_ NB0_107.out _) | exact HI0.out)); (case side2 => repeat (first | (with_reducible first | exact HB.out | apply below_alloc | apply pw_below_drewN | apply below_drew1 | refine below_set ?_ (IsS91.ge HI0.out) | refine below_set ?_ GE101.out | refine below_set ?_ GE107.out) | exact HB.out)); rintro e w13 ⟨rfl, hi, hb, hk⟩; refine ⟨_, rfl, ?_⟩; replace BK101 := Aside0.mk (KeepBut.blk hk (g' := gb101) (o := .cells #[.int .i64 0, .int .i64 0, .int .i64 0, .int .i64 0, .int .i64 0, .string (⟨#[]⟩ : ByteArray)] 39 (0, 0)) (by refine bq ?_; refine blk_far ?_ NB101_107.out _; refine bq ?_; refine blk_far ?_ NB101_107.out _; refine bq ?_; refine blk_far ?_ NB101_107.out _; refine bq ?_; refine blk_far ?_ NB101_107.out _; refine bq ?_; refine blk_far ?_ NB101_107.out _; refine bq ?_; refine blk_far ?_ NB101_107.out _; exact bq BK101.out) NB101_0.out (by simp)); replace BK107 := Aside0.mk (KeepBut.blk hk (g' := gb107) (o := .cells #[.int .i64 t102, .int .i64 0, .int .i64 0, .int .i64 0, .int .i64 0, .string (⟨#[]⟩ : ByteArray)] 39 (0, 0)) (by refine bq ?_; refine blk_put (cs := #[.int .i64 t102, .int .i64 0, .int .i64 0, .int .i64 0, .int .i64 0, .string (⟨#[]⟩ : ByteArray)]) ?_ 5 _ rfl; refine bq ?_; refine blk_put (cs := #[.int .i64 t102, .int .i64 0, .int .i64 0, .int .i64 0, .int .i64 0, .string (⟨#[]⟩ : ByteArray)]) ?_ 4 _ rfl; refine bq ?_; refine blk_put (cs := #[.int .i64 t102, .int .i64 0, .int .i64 0, .int .i64 0, .int .i64 0, .string (⟨#[]⟩ : ByteArray)]) ?_ 3 _ rfl; refine bq ?_; refine blk_put (cs := #[.int .i64 t102, .int .i64 0, .int .i64 0, .int .i64 0, .int .i64 0, .string (⟨#[]⟩ : ByteArray)]) ?_ 2 _ rfl; refine bq ?_; refine blk_put (cs := #[.int .i64 t102, .int .i64 0, .int .i64 0, .int .i64 0, .int .i64 0, .string (⟨#[]⟩ : ByteArray)]) ?_ 1 _ rfl; refine bq ?_; refine blk_put (cs := #[.int .i64 0, .int .i64 0, .int .i64 0, .int .i64 0, .int .i64 0, .string (⟨#[]⟩ : ByteArray)]) ?_ 0 _ rfl; exact bq BK107.out) NB107_0.out (by simp)); replace HK := Aside0.mk (KeepBut.trans (by repeat (first | (with_reducible first | exact HK.out | apply KeepBut.set_ | apply keep_drewN | apply keep_drew | apply keep_alloc | refine keep_far ?_ GW101.out _ | refine keep_far ?_ GW107.out _) | exact HK.out)) hk (.inl rfl)); replace HB := Aside0.mk (hb); replace HI0 := Aside0.mk (hi); (try clear hb); (try clear hb2); (try clear hk); (try clear hi); obtain ⟨HGz14, hgz14⟩ := HI0.out; have hcz14_0 := cellS91_0 HGz14; have hcz14_1 := cellS91_1 HGz14; have hcz14_2 := cellS91_2 HGz14; have hcz14_3 := cellS91_3 HGz14; have hfz14_0 := blk_frozen HGz14 0; have hfz14_1 := blk_frozen HGz14 1; have hfz14_2 := blk_frozen HGz14 2; have hfz14_3 := blk_frozen HGz14 3; clear HGz14 hgz14) | ((with_reducible refine gate_callee (f := 52) rfl ?_); refine goesL_ (some 37) rfl rfl Tryd.func52 (by kernel_rfl) rfl #[.pointer (some ⟨g, 0, none⟩)] rfl qq0 ?_; (with_reducible refine (wire_reader_data.calls g t109 t110 0 t112 t113 t114 t115 t116 t117 w0 _ ?side1 ?side2 A5.out).mono ?_); (case side1 => repeat (first | (with_reducible first | exact HI0.out | apply IsS91.alloc | apply IsS91.drewN | apply IsS91.drew | apply IsS91.set_0 | apply IsS91.set_1 | apply IsS91.set_2 | apply IsS91.set_3 | refine IsS91.far ?_ NB0_101.out _ | refine IsS91.far ?_ NB0_107.out _) | exact HI0.out)); (case side2 => repeat (first | (with_reducible first | exact HB.out | apply below_alloc | apply pw_below_drewN | apply below_drew1 | refine below_set ?_ (IsS91.ge HI0.out) | refine below_set ?_ GE101.out | refine below_set ?_ GE107.out) | exact HB.out)); rintro e w15 ⟨rfl, hi, hb, hk⟩; refine ⟨_, rfl, ?_⟩; replace BK101 := Aside0.mk (KeepBut.blk hk (g' := gb101) (o := .cells #[.int .i64 0, .int .i64 0, .int .i64 0, .int .i64 0, .int .i64 0, .string (⟨#[]⟩ : ByteArray)] 39 (0, 0)) (by refine bq ?_; refine blk_far ?_ NB101_0.out _; exact bq BK101.out) NB101_0.out (by simp)); replace BK107 := Aside0.mk (KeepBut.blk hk (g' := gb107) (o := .cells #[.int .i64 t102, .int .i64 0, .int .i64 0, .int .i64 0, .int .i64 0, .string (⟨#[]⟩ : ByteArray)] 39 (0, 0)) (by refine bq ?_; refine blk_far ?_ NB107_0.out _; exact bq BK107.out) NB107_0.out (by simp)); replace HK := Aside0.mk (KeepBut.trans (by repeat (first | (with_reducible first | exact HK.out | apply KeepBut.set_ | apply keep_drewN | apply keep_drew | apply keep_alloc | refine keep_far ?_ GW101.out _ | refine keep_far ?_ GW107.out _) | exact HK.out)) hk (.inl rfl)); replace HB := Aside0.mk (hb); replace HI0 := Aside0.mk (hi); (try clear hb); (try clear hb2); (try clear hk); (try clear hi); obtain ⟨hcz16_0, hcz16_1, hcz16_2, hcz16_3, hcz16_4, hcz16_5, hfz16_0, hfz16_1, hfz16_2, hfz16_3, hfz16_4, hfz16_5⟩ := blk6 BK107.out) | ((with_reducible refine gate_callee (f := 53) rfl ?_); refine goesL_ (some 41) rfl rfl Tryd.func53 (by kernel_rfl) rfl #[.pointer (some ⟨g, 0, none⟩)] rfl qq0 ?_; (with_reducible refine (wire_reader_bytes.calls k g t114 t115 t116 t117 t118 t119 t120 t121 t122 w0 _ ?side1 ?side2 A6.out).mono ?_); (case side1 => repeat (first | (with_reducible first | exact HI0.out | apply IsS91.alloc | apply IsS91.drewN | apply IsS91.drew | apply IsS91.set_0 | apply IsS91.set_1 | apply IsS91.set_2 | apply IsS91.set_3 | refine IsS91.far ?_ NB0_101.out _ | refine IsS91.far ?_ NB0_107.out _) | exact HI0.out)); (case side2 => repeat (first | (with_reducible first | exact HB.out | apply below_alloc | apply pw_below_drewN | apply below_drew1 | refine below_set ?_ (IsS91.ge HI0.out) | refine below_set ?_ GE101.out | refine below_set ?_ GE107.out) | exact HB.out)); rintro e w17 ⟨rfl, hi, hb, hk⟩; refine ⟨_, rfl, ?_⟩; replace BK101 := Aside0.mk (KeepBut.blk hk (g' := gb101) (o := .cells #[.int .i64 0, .int .i64 0, .int .i64 0, .int .i64 0, .int .i64 0, .string (⟨#[]⟩ : ByteArray)] 39 (0, 0)) (by refine bq ?_; refine blk_far ?_ NB101_107.out _; refine bq ?_; refine blk_far ?_ NB101_107.out _; exact bq BK101.out) NB101_0.out (by simp)); replace BK107 := Aside0.mk (KeepBut.blk hk (g' := gb107) (o := .cells #[.int .i64 t102, .int .i64 16, .int .i64 0, .int .i64 t113, .int .i64 0, .string (⟨#[]⟩ : ByteArray)] 39 (0, 0)) (by refine bq ?_; refine blk_put (cs := #[.int .i64 t102, .int .i64 16, .int .i64 0, .int .i64 0, .int .i64 0, .string (⟨#[]⟩ : ByteArray)]) ?_ 3 _ rfl; refine bq ?_; refine blk_put (cs := #[.int .i64 t102, .int .i64 0, .int .i64 0, .int .i64 0, .int .i64 0, .string (⟨#[]⟩ : ByteArray)]) ?_ 1 _ rfl; exact bq BK107.out) NB107_0.out (by simp)); replace HK := Aside0.mk (KeepBut.trans (by repeat (first | (with_reducible first | exact HK.out | apply KeepBut.set_ | apply keep_drewN | apply keep_drew | apply keep_alloc | refine keep_far ?_ GW101.out _ | refine keep_far ?_ GW107.out _) | exact HK.out)) hk (.inl rfl)); replace HB := Aside0.mk (hb); replace HI0 := Aside0.mk (hi); (try clear hb); (try clear hb2); (try clear hk); (try clear hi); obtain ⟨hcz18_0, hcz18_1, hcz18_2, hcz18_3, hcz18_4, hcz18_5, hfz18_0, hfz18_1, hfz18_2, hfz18_3, hfz18_4, hfz18_5⟩ := blk6 BK107.out; have hnb19 := NB101_0.out; have hnc19 := NB0_101.out; obtain ⟨hcz20_0, hcz20_1, hcz20_2, hcz20_3, hcz20_4, hcz20_5, hfz20_0, hfz20_1, hfz20_2, hfz20_3, hfz20_4, hfz20_5⟩ := blk6 BK101.out))
    refine bodyPost_ret (results_cell_row rfl _ _ gb101 39 #[.int .i64 t102, .int .i64 16, .int .i64 0, .int .i64 t113, .int .i64 0, .string t118] (0, 0) _ rfl (by refine bq ?_; refine blk_put (cs := #[.int .i64 t102, .int .i64 16, .int .i64 0, .int .i64 t113, .int .i64 0, .string (⟨#[]⟩ : ByteArray)]) ?_ 5 _ rfl; refine bq ?_; refine blk_put (cs := #[.int .i64 t102, .int .i64 16, .int .i64 0, .int .i64 t113, .int .i64 0, .string (⟨#[]⟩ : ByteArray)]) ?_ 4 _ rfl; refine bq ?_; refine blk_put (cs := #[.int .i64 t102, .int .i64 16, .int .i64 0, .int .i64 0, .int .i64 0, .string (⟨#[]⟩ : ByteArray)]) ?_ 3 _ rfl; refine bq ?_; refine blk_put (cs := #[.int .i64 t102, .int .i64 16, .int .i64 0, .int .i64 0, .int .i64 0, .string (⟨#[]⟩ : ByteArray)]) ?_ 2 _ rfl; refine bq ?_; refine blk_put (cs := #[.int .i64 t102, .int .i64 0, .int .i64 0, .int .i64 0, .int .i64 0, .string (⟨#[]⟩ : ByteArray)]) ?_ 1 _ rfl; refine bq ?_; refine blk_put (cs := #[.int .i64 0, .int .i64 0, .int .i64 0, .int .i64 0, .int .i64 0, .string (⟨#[]⟩ : ByteArray)]) ?_ 0 _ rfl; refine bq ?_; refine blk_far ?_ NB101_107.out _; exact bq BK101.out) Tryd.underlying39 rfl (by kernel_rfl)) rfl ?_
    exact ⟨qq4, by repeat (first | (with_reducible first | exact HI0.out | apply IsS91.alloc | apply IsS91.drewN | apply IsS91.drew | apply IsS91.set_0 | apply IsS91.set_1 | apply IsS91.set_2 | apply IsS91.set_3 | refine IsS91.far ?_ NB0_101.out _ | refine IsS91.far ?_ NB0_107.out _) | exact HI0.out), by repeat (first | (with_reducible first | exact HB.out | apply below_alloc | apply pw_below_drewN | apply below_drew1 | refine below_set ?_ (IsS91.ge HI0.out) | refine below_set ?_ GE101.out | refine below_set ?_ GE107.out) | exact HB.out), by repeat (first | (with_reducible first | exact HK.out | apply KeepBut.set_ | apply keep_drewN | apply keep_drew | apply keep_alloc | refine keep_far ?_ GW101.out _ | refine keep_far ?_ GW107.out _) | exact HK.out)⟩
  rw [if_neg c4] at H
  have c4b0 : (t108 == 255) = false := beq_eq_false_iff_ne.mpr c4
  have c4b1 : (t108 != 255) = true := bne_iff_ne.mpr c4
  by_cases c21 : t108 ≥ 240
  · rw [if_pos c21] at H
    have c21b0 : decide (240 ≤ t108) = true := decide_eq_true c21
    clear c21
    replace H := Option.bind_eq_some_iff.mp H
    obtain ⟨⟨t123, t124, t125, t126, t127⟩, A220, H⟩ := H
    try dsimp -simprocs only at H
    have A22 := Aside0.mk A220
    clear A220
    simp only [Option.some.injEq, Prod.mk.injEq] at H
    obtain ⟨rfl, rfl, rfl, rfl, rfl, rfl, rfl, rfl, rfl, rfl⟩ := H
    go_enter Tryd.func49, Tryd.ntmps49
    go_wp2_with (first | ((with_reducible refine gate_dst (N := 2) rfl ?_); refine box_event ?hg (N := 2) ?hd (cs := #[.int .i64 0, .int .i64 0, .int .i64 0, .int .i64 0, .int .i64 0, .string (⟨#[]⟩ : ByteArray)]) (t := 39) ?hr ?_; (case hd => rfl); (case hg => rfl); (case hr => exact qq8); intro gb101 hg w23 hbox hb; replace HB := Aside0.mk (below_step (by repeat (first | (with_reducible first | exact HB.out | apply below_alloc | apply pw_below_drewN | apply below_drew1 | refine below_set ?_ (IsS91.ge HI0.out)) | exact HB.out)) hb); have BK101 := Aside0.mk (hbox); have GW101 := Aside0.mk ((qqr : w.heap.size ≤ gb101)); have GE101 := Aside0.mk ((Nat.le_trans HW0.out (qqr : w.heap.size ≤ gb101) : w0.heap.size ≤ gb101)); replace HK := Aside0.mk (KeepBut.trans qq2 (KeepBut.of_below hb g none) (.inl rfl)); have NB0_101 := Aside0.mk ((qqp : g ≠ gb101)); have NB101_0 := Aside0.mk ((qqq : gb101 ≠ g)); replace HI0 := Aside0.mk (IsS91.below qq1 hb); clear hb hbox hg) | ((with_reducible refine gate_callee (f := 50) rfl ?_); refine goesL_ (some 6) rfl rfl Tryd.func50 (by kernel_rfl) rfl #[.pointer (some ⟨g, 0, none⟩)] rfl qq0 ?_; (with_reducible refine (wire_reader_number.calls k g s0_0 s0_1 s0_2 s0_3 t102 t103 t104 t105 t106 w0 _ ?side1 ?side2 A2.out).mono ?_); (case side1 => repeat (first | (with_reducible first | exact HI0.out | apply IsS91.alloc | apply IsS91.drewN | apply IsS91.drew | apply IsS91.set_0 | apply IsS91.set_1 | apply IsS91.set_2 | apply IsS91.set_3 | refine IsS91.far ?_ NB0_101.out _) | exact HI0.out)); (case side2 => repeat (first | (with_reducible first | exact HB.out | apply below_alloc | apply pw_below_drewN | apply below_drew1 | refine below_set ?_ (IsS91.ge HI0.out) | refine below_set ?_ GE101.out) | exact HB.out)); rintro e w24 ⟨rfl, hi, hb, hk⟩; refine ⟨_, rfl, ?_⟩; replace BK101 := Aside0.mk (KeepBut.blk hk (g' := gb101) (o := .cells #[.int .i64 0, .int .i64 0, .int .i64 0, .int .i64 0, .int .i64 0, .string (⟨#[]⟩ : ByteArray)] 39 (0, 0)) (bq BK101.out) NB101_0.out (by simp)); replace HK := Aside0.mk (KeepBut.trans (by repeat (first | (with_reducible first | exact HK.out | apply KeepBut.set_ | apply keep_drewN | apply keep_drew | apply keep_alloc | refine keep_far ?_ GW101.out _) | exact HK.out)) hk (.inl rfl)); replace HB := Aside0.mk (hb); replace HI0 := Aside0.mk (hi); (try clear hb); (try clear hb2); (try clear hk); (try clear hi)) | ((with_reducible refine gate_dst (N := 3) rfl ?_); refine box_event ?hg (N := 3) ?hd (cs := #[.int .i64 0, .int .i64 0, .int .i64 0, .int .i64 0, .int .i64 0, .string (⟨#[]⟩ : ByteArray)]) (t := 39) ?hr ?_; (case hd => rfl); (case hg => rfl); (case hr => exact qq8); intro gb107 hg w25 hbox hb; replace HB := Aside0.mk (below_step (by repeat (first | (with_reducible first | exact HB.out | apply below_alloc | apply pw_below_drewN | apply below_drew1 | refine below_set ?_ (IsS91.ge HI0.out) | refine below_set ?_ GE101.out) | exact HB.out)) hb); have BK107 := Aside0.mk (hbox); have GW107 := Aside0.mk ((by rw [hg]; exact (keep_size (w := w) (g := g) (row := none) (by repeat (first | (with_reducible first | exact HK.out | apply KeepBut.set_ | apply keep_drewN | apply keep_drew | apply keep_alloc | refine keep_far ?_ GW101.out _) | exact HK.out))) : w.heap.size ≤ gb107)); have GE107 := Aside0.mk ((Nat.le_trans HW0.out (by rw [hg]; exact (keep_size (w := w) (g := g) (row := none) (by repeat (first | (with_reducible first | exact HK.out | apply KeepBut.set_ | apply keep_drewN | apply keep_drew | apply keep_alloc | refine keep_far ?_ GW101.out _) | exact HK.out))) : w.heap.size ≤ gb107) : w0.heap.size ≤ gb107)); replace HK := Aside0.mk (KeepBut.trans (by repeat (first | (with_reducible first | exact HK.out | apply KeepBut.set_ | apply keep_drewN | apply keep_drew | apply keep_alloc | refine keep_far ?_ GW101.out _) | exact HK.out)) (KeepBut.of_below hb g none) (.inl rfl)); have NB101_107 := Aside0.mk ((qqc : gb101 ≠ gb107)); have NB107_101 := Aside0.mk ((qqd : gb107 ≠ gb101)); replace BK101 := Aside0.mk (blk_below (bq BK101.out) hb); have NB0_107 := Aside0.mk ((by rw [hg]; exact Nat.ne_of_lt (IsS91.lt (show IsS91 w0 _ g t103 t104 t105 t106 from by repeat (first | (with_reducible first | exact HI0.out | apply IsS91.alloc | apply IsS91.drewN | apply IsS91.drew | apply IsS91.set_0 | apply IsS91.set_1 | apply IsS91.set_2 | apply IsS91.set_3 | refine IsS91.far ?_ NB0_101.out _) | exact HI0.out))) : g ≠ gb107)); have NB107_0 := Aside0.mk ((by rw [hg]; exact Nat.ne_of_gt (IsS91.lt (show IsS91 w0 _ g t103 t104 t105 t106 from by repeat (first | (with_reducible first | exact HI0.out | apply IsS91.alloc | apply IsS91.drewN | apply IsS91.drew | apply IsS91.set_0 | apply IsS91.set_1 | apply IsS91.set_2 | apply IsS91.set_3 | refine IsS91.far ?_ NB0_101.out _) | exact HI0.out))) : gb107 ≠ g)); replace HI0 := Aside0.mk (IsS91.below (by repeat (first | (with_reducible first | exact HI0.out | apply IsS91.alloc | apply IsS91.drewN | apply IsS91.drew | apply IsS91.set_0 | apply IsS91.set_1 | apply IsS91.set_2 | apply IsS91.set_3 | refine IsS91.far ?_ NB0_101.out _) | exact HI0.out)) hb); clear hb hbox hg; have hnb26 := NB107_101.out; have hnc26 := NB101_107.out; have hnb27 := NB107_0.out; have hnc27 := NB0_107.out; obtain ⟨hcz28_0, hcz28_1, hcz28_2, hcz28_3, hcz28_4, hcz28_5, hfz28_0, hfz28_1, hfz28_2, hfz28_3, hfz28_4, hfz28_5⟩ := blk6 BK107.out) | ((with_reducible refine gate_callee (f := 51) rfl ?_); refine goesL_ (some 9) rfl rfl Tryd.func51 (by kernel_rfl) rfl #[.pointer (some ⟨g, 0, none⟩)] rfl qq0 ?_; (with_reducible refine (wire_reader_status.calls g t103 t104 t105 t106 t108 t109 t110 t111 t112 w0 _ ?side1 ?side2 A3.out).mono ?_); (case side1 => repeat (first | (with_reducible first | exact HI0.out | apply IsS91.alloc | apply IsS91.drewN | apply IsS91.drew | apply IsS91.set_0 | apply IsS91.set_1 | apply IsS91.set_2 | apply IsS91.set_3 | refine IsS91.far ?_ NB0_101.out _ | refine IsS91.far ?_ NB0_107.out _) | exact HI0.out)); (case side2 => repeat (first | (with_reducible first | exact HB.out | apply below_alloc | apply pw_below_drewN | apply below_drew1 | refine below_set ?_ (IsS91.ge HI0.out) | refine below_set ?_ GE101.out | refine below_set ?_ GE107.out) | exact HB.out)); rintro e w29 ⟨rfl, hi, hb, hk⟩; refine ⟨_, rfl, ?_⟩; replace BK101 := Aside0.mk (KeepBut.blk hk (g' := gb101) (o := .cells #[.int .i64 0, .int .i64 0, .int .i64 0, .int .i64 0, .int .i64 0, .string (⟨#[]⟩ : ByteArray)] 39 (0, 0)) (by refine bq ?_; refine blk_far ?_ NB101_107.out _; refine bq ?_; refine blk_far ?_ NB101_107.out _; refine bq ?_; refine blk_far ?_ NB101_107.out _; refine bq ?_; refine blk_far ?_ NB101_107.out _; refine bq ?_; refine blk_far ?_ NB101_107.out _; refine bq ?_; refine blk_far ?_ NB101_107.out _; exact bq BK101.out) NB101_0.out (by simp)); replace BK107 := Aside0.mk (KeepBut.blk hk (g' := gb107) (o := .cells #[.int .i64 t102, .int .i64 0, .int .i64 0, .int .i64 0, .int .i64 0, .string (⟨#[]⟩ : ByteArray)] 39 (0, 0)) (by refine bq ?_; refine blk_put (cs := #[.int .i64 t102, .int .i64 0, .int .i64 0, .int .i64 0, .int .i64 0, .string (⟨#[]⟩ : ByteArray)]) ?_ 5 _ rfl; refine bq ?_; refine blk_put (cs := #[.int .i64 t102, .int .i64 0, .int .i64 0, .int .i64 0, .int .i64 0, .string (⟨#[]⟩ : ByteArray)]) ?_ 4 _ rfl; refine bq ?_; refine blk_put (cs := #[.int .i64 t102, .int .i64 0, .int .i64 0, .int .i64 0, .int .i64 0, .string (⟨#[]⟩ : ByteArray)]) ?_ 3 _ rfl; refine bq ?_; refine blk_put (cs := #[.int .i64 t102, .int .i64 0, .int .i64 0, .int .i64 0, .int .i64 0, .string (⟨#[]⟩ : ByteArray)]) ?_ 2 _ rfl; refine bq ?_; refine blk_put (cs := #[.int .i64 t102, .int .i64 0, .int .i64 0, .int .i64 0, .int .i64 0, .string (⟨#[]⟩ : ByteArray)]) ?_ 1 _ rfl; refine bq ?_; refine blk_put (cs := #[.int .i64 0, .int .i64 0, .int .i64 0, .int .i64 0, .int .i64 0, .string (⟨#[]⟩ : ByteArray)]) ?_ 0 _ rfl; exact bq BK107.out) NB107_0.out (by simp)); replace HK := Aside0.mk (KeepBut.trans (by repeat (first | (with_reducible first | exact HK.out | apply KeepBut.set_ | apply keep_drewN | apply keep_drew | apply keep_alloc | refine keep_far ?_ GW101.out _ | refine keep_far ?_ GW107.out _) | exact HK.out)) hk (.inl rfl)); replace HB := Aside0.mk (hb); replace HI0 := Aside0.mk (hi); (try clear hb); (try clear hb2); (try clear hk); (try clear hi); obtain ⟨HGz30, hgz30⟩ := HI0.out; have hcz30_0 := cellS91_0 HGz30; have hcz30_1 := cellS91_1 HGz30; have hcz30_2 := cellS91_2 HGz30; have hcz30_3 := cellS91_3 HGz30; have hfz30_0 := blk_frozen HGz30 0; have hfz30_1 := blk_frozen HGz30 1; have hfz30_2 := blk_frozen HGz30 2; have hfz30_3 := blk_frozen HGz30 3; clear HGz30 hgz30; obtain ⟨hcz31_0, hcz31_1, hcz31_2, hcz31_3, hcz31_4, hcz31_5, hfz31_0, hfz31_1, hfz31_2, hfz31_3, hfz31_4, hfz31_5⟩ := blk6 BK107.out) | ((with_reducible refine gate_callee (f := 53) rfl ?_); refine goesL_ (some 50) rfl rfl Tryd.func53 (by kernel_rfl) rfl #[.pointer (some ⟨g, 0, none⟩)] rfl qq0 ?_; (with_reducible refine (wire_reader_bytes.calls k g t109 t110 0 t112 t123 t124 t125 t126 t127 w0 _ ?side1 ?side2 A22.out).mono ?_); (case side1 => repeat (first | (with_reducible first | exact HI0.out | apply IsS91.alloc | apply IsS91.drewN | apply IsS91.drew | apply IsS91.set_0 | apply IsS91.set_1 | apply IsS91.set_2 | apply IsS91.set_3 | refine IsS91.far ?_ NB0_101.out _ | refine IsS91.far ?_ NB0_107.out _) | exact HI0.out)); (case side2 => repeat (first | (with_reducible first | exact HB.out | apply below_alloc | apply pw_below_drewN | apply below_drew1 | refine below_set ?_ (IsS91.ge HI0.out) | refine below_set ?_ GE101.out | refine below_set ?_ GE107.out) | exact HB.out)); rintro e w32 ⟨rfl, hi, hb, hk⟩; refine ⟨_, rfl, ?_⟩; replace BK101 := Aside0.mk (KeepBut.blk hk (g' := gb101) (o := .cells #[.int .i64 0, .int .i64 0, .int .i64 0, .int .i64 0, .int .i64 0, .string (⟨#[]⟩ : ByteArray)] 39 (0, 0)) (by refine bq ?_; refine blk_far ?_ NB101_107.out _; refine bq ?_; refine blk_far ?_ NB101_107.out _; refine bq ?_; refine blk_far ?_ NB101_0.out _; exact bq BK101.out) NB101_0.out (by simp)); replace BK107 := Aside0.mk (KeepBut.blk hk (g' := gb107) (o := .cells #[.int .i64 t102, .int .i64 15, .int .i64 0, .int .i64 t108, .int .i64 0, .string (⟨#[]⟩ : ByteArray)] 39 (0, 0)) (by refine bq ?_; refine blk_put (cs := #[.int .i64 t102, .int .i64 15, .int .i64 0, .int .i64 0, .int .i64 0, .string (⟨#[]⟩ : ByteArray)]) ?_ 3 _ rfl; refine bq ?_; refine blk_put (cs := #[.int .i64 t102, .int .i64 0, .int .i64 0, .int .i64 0, .int .i64 0, .string (⟨#[]⟩ : ByteArray)]) ?_ 1 _ rfl; refine bq ?_; refine blk_far ?_ NB107_0.out _; exact bq BK107.out) NB107_0.out (by simp)); replace HK := Aside0.mk (KeepBut.trans (by repeat (first | (with_reducible first | exact HK.out | apply KeepBut.set_ | apply keep_drewN | apply keep_drew | apply keep_alloc | refine keep_far ?_ GW101.out _ | refine keep_far ?_ GW107.out _) | exact HK.out)) hk (.inl rfl)); replace HB := Aside0.mk (hb); replace HI0 := Aside0.mk (hi); (try clear hb); (try clear hb2); (try clear hk); (try clear hi); obtain ⟨hcz33_0, hcz33_1, hcz33_2, hcz33_3, hcz33_4, hcz33_5, hfz33_0, hfz33_1, hfz33_2, hfz33_3, hfz33_4, hfz33_5⟩ := blk6 BK107.out; have hnb34 := NB101_0.out; have hnc34 := NB0_101.out; obtain ⟨hcz35_0, hcz35_1, hcz35_2, hcz35_3, hcz35_4, hcz35_5, hfz35_0, hfz35_1, hfz35_2, hfz35_3, hfz35_4, hfz35_5⟩ := blk6 BK101.out))
    refine bodyPost_ret (results_cell_row rfl _ _ gb101 39 #[.int .i64 t102, .int .i64 15, .int .i64 0, .int .i64 t108, .int .i64 0, .string t123] (0, 0) _ rfl (by refine bq ?_; refine blk_put (cs := #[.int .i64 t102, .int .i64 15, .int .i64 0, .int .i64 t108, .int .i64 0, .string (⟨#[]⟩ : ByteArray)]) ?_ 5 _ rfl; refine bq ?_; refine blk_put (cs := #[.int .i64 t102, .int .i64 15, .int .i64 0, .int .i64 t108, .int .i64 0, .string (⟨#[]⟩ : ByteArray)]) ?_ 4 _ rfl; refine bq ?_; refine blk_put (cs := #[.int .i64 t102, .int .i64 15, .int .i64 0, .int .i64 0, .int .i64 0, .string (⟨#[]⟩ : ByteArray)]) ?_ 3 _ rfl; refine bq ?_; refine blk_put (cs := #[.int .i64 t102, .int .i64 15, .int .i64 0, .int .i64 0, .int .i64 0, .string (⟨#[]⟩ : ByteArray)]) ?_ 2 _ rfl; refine bq ?_; refine blk_put (cs := #[.int .i64 t102, .int .i64 0, .int .i64 0, .int .i64 0, .int .i64 0, .string (⟨#[]⟩ : ByteArray)]) ?_ 1 _ rfl; refine bq ?_; refine blk_put (cs := #[.int .i64 0, .int .i64 0, .int .i64 0, .int .i64 0, .int .i64 0, .string (⟨#[]⟩ : ByteArray)]) ?_ 0 _ rfl; refine bq ?_; refine blk_far ?_ NB101_107.out _; exact bq BK101.out) Tryd.underlying39 rfl (by kernel_rfl)) rfl ?_
    exact ⟨qq4, by repeat (first | (with_reducible first | exact HI0.out | apply IsS91.alloc | apply IsS91.drewN | apply IsS91.drew | apply IsS91.set_0 | apply IsS91.set_1 | apply IsS91.set_2 | apply IsS91.set_3 | refine IsS91.far ?_ NB0_101.out _ | refine IsS91.far ?_ NB0_107.out _) | exact HI0.out), by repeat (first | (with_reducible first | exact HB.out | apply below_alloc | apply pw_below_drewN | apply below_drew1 | refine below_set ?_ (IsS91.ge HI0.out) | refine below_set ?_ GE101.out | refine below_set ?_ GE107.out) | exact HB.out), by repeat (first | (with_reducible first | exact HK.out | apply KeepBut.set_ | apply keep_drewN | apply keep_drew | apply keep_alloc | refine keep_far ?_ GW101.out _ | refine keep_far ?_ GW107.out _) | exact HK.out)⟩
  rw [if_neg c21] at H
  have c21b0 : decide (240 ≤ t108) = false := decide_eq_false c21
  clear c21
  replace H := Option.bind_eq_some_iff.mp H
  obtain ⟨⟨t128, t129, t130, t131, t132⟩, A360, H⟩ := H
  try dsimp -simprocs only at H
  have A36 := Aside0.mk A360
  clear A360
  replace H := Option.bind_eq_some_iff.mp H
  obtain ⟨t133, A370, H⟩ := H
  try dsimp -simprocs only at H
  have A37 := Aside0.mk A370
  clear A370
  by_cases c38 : t133 = true
  · subst c38
    have H1 : (some (t102, wrap64 (Int.tdiv t108 16), Int.tmod t108 16, t128, 0, (⟨#[]⟩ : ByteArray), t129, t130, t131, t132)) = some (r1, r2, r3, r4, r5, r6, r7, r8, r9, r10) := by rw [if_pos rfl] at H; exact H
    clear H
    have H := H1
    clear H1
    simp only [Option.some.injEq, Prod.mk.injEq] at H
    obtain ⟨rfl, rfl, rfl, rfl, rfl, rfl, rfl, rfl, rfl, rfl⟩ := H
    go_enter Tryd.func49, Tryd.ntmps49
    go_wp2_with (first | ((with_reducible refine gate_dst (N := 2) rfl ?_); refine box_event ?hg (N := 2) ?hd (cs := #[.int .i64 0, .int .i64 0, .int .i64 0, .int .i64 0, .int .i64 0, .string (⟨#[]⟩ : ByteArray)]) (t := 39) ?hr ?_; (case hd => rfl); (case hg => rfl); (case hr => exact qq8); intro gb101 hg w39 hbox hb; replace HB := Aside0.mk (below_step (by repeat (first | (with_reducible first | exact HB.out | apply below_alloc | apply pw_below_drewN | apply below_drew1 | refine below_set ?_ (IsS91.ge HI0.out)) | exact HB.out)) hb); have BK101 := Aside0.mk (hbox); have GW101 := Aside0.mk ((qqr : w.heap.size ≤ gb101)); have GE101 := Aside0.mk ((Nat.le_trans HW0.out (qqr : w.heap.size ≤ gb101) : w0.heap.size ≤ gb101)); replace HK := Aside0.mk (KeepBut.trans qq2 (KeepBut.of_below hb g none) (.inl rfl)); have NB0_101 := Aside0.mk ((qqp : g ≠ gb101)); have NB101_0 := Aside0.mk ((qqq : gb101 ≠ g)); replace HI0 := Aside0.mk (IsS91.below qq1 hb); clear hb hbox hg) | ((with_reducible refine gate_callee (f := 50) rfl ?_); refine goesL_ (some 6) rfl rfl Tryd.func50 (by kernel_rfl) rfl #[.pointer (some ⟨g, 0, none⟩)] rfl qq0 ?_; (with_reducible refine (wire_reader_number.calls k g s0_0 s0_1 s0_2 s0_3 t102 t103 t104 t105 t106 w0 _ ?side1 ?side2 A2.out).mono ?_); (case side1 => repeat (first | (with_reducible first | exact HI0.out | apply IsS91.alloc | apply IsS91.drewN | apply IsS91.drew | apply IsS91.set_0 | apply IsS91.set_1 | apply IsS91.set_2 | apply IsS91.set_3 | refine IsS91.far ?_ NB0_101.out _) | exact HI0.out)); (case side2 => repeat (first | (with_reducible first | exact HB.out | apply below_alloc | apply pw_below_drewN | apply below_drew1 | refine below_set ?_ (IsS91.ge HI0.out) | refine below_set ?_ GE101.out) | exact HB.out)); rintro e w40 ⟨rfl, hi, hb, hk⟩; refine ⟨_, rfl, ?_⟩; replace BK101 := Aside0.mk (KeepBut.blk hk (g' := gb101) (o := .cells #[.int .i64 0, .int .i64 0, .int .i64 0, .int .i64 0, .int .i64 0, .string (⟨#[]⟩ : ByteArray)] 39 (0, 0)) (bq BK101.out) NB101_0.out (by simp)); replace HK := Aside0.mk (KeepBut.trans (by repeat (first | (with_reducible first | exact HK.out | apply KeepBut.set_ | apply keep_drewN | apply keep_drew | apply keep_alloc | refine keep_far ?_ GW101.out _) | exact HK.out)) hk (.inl rfl)); replace HB := Aside0.mk (hb); replace HI0 := Aside0.mk (hi); (try clear hb); (try clear hb2); (try clear hk); (try clear hi)) | ((with_reducible refine gate_dst (N := 3) rfl ?_); refine box_event ?hg (N := 3) ?hd (cs := #[.int .i64 0, .int .i64 0, .int .i64 0, .int .i64 0, .int .i64 0, .string (⟨#[]⟩ : ByteArray)]) (t := 39) ?hr ?_; (case hd => rfl); (case hg => rfl); (case hr => exact qq8); intro gb107 hg w41 hbox hb; replace HB := Aside0.mk (below_step (by repeat (first | (with_reducible first | exact HB.out | apply below_alloc | apply pw_below_drewN | apply below_drew1 | refine below_set ?_ (IsS91.ge HI0.out) | refine below_set ?_ GE101.out) | exact HB.out)) hb); have BK107 := Aside0.mk (hbox); have GW107 := Aside0.mk ((by rw [hg]; exact (keep_size (w := w) (g := g) (row := none) (by repeat (first | (with_reducible first | exact HK.out | apply KeepBut.set_ | apply keep_drewN | apply keep_drew | apply keep_alloc | refine keep_far ?_ GW101.out _) | exact HK.out))) : w.heap.size ≤ gb107)); have GE107 := Aside0.mk ((Nat.le_trans HW0.out (by rw [hg]; exact (keep_size (w := w) (g := g) (row := none) (by repeat (first | (with_reducible first | exact HK.out | apply KeepBut.set_ | apply keep_drewN | apply keep_drew | apply keep_alloc | refine keep_far ?_ GW101.out _) | exact HK.out))) : w.heap.size ≤ gb107) : w0.heap.size ≤ gb107)); replace HK := Aside0.mk (KeepBut.trans (by repeat (first | (with_reducible first | exact HK.out | apply KeepBut.set_ | apply keep_drewN | apply keep_drew | apply keep_alloc | refine keep_far ?_ GW101.out _) | exact HK.out)) (KeepBut.of_below hb g none) (.inl rfl)); have NB101_107 := Aside0.mk ((qqc : gb101 ≠ gb107)); have NB107_101 := Aside0.mk ((qqd : gb107 ≠ gb101)); replace BK101 := Aside0.mk (blk_below (bq BK101.out) hb); have NB0_107 := Aside0.mk ((by rw [hg]; exact Nat.ne_of_lt (IsS91.lt (show IsS91 w0 _ g t103 t104 t105 t106 from by repeat (first | (with_reducible first | exact HI0.out | apply IsS91.alloc | apply IsS91.drewN | apply IsS91.drew | apply IsS91.set_0 | apply IsS91.set_1 | apply IsS91.set_2 | apply IsS91.set_3 | refine IsS91.far ?_ NB0_101.out _) | exact HI0.out))) : g ≠ gb107)); have NB107_0 := Aside0.mk ((by rw [hg]; exact Nat.ne_of_gt (IsS91.lt (show IsS91 w0 _ g t103 t104 t105 t106 from by repeat (first | (with_reducible first | exact HI0.out | apply IsS91.alloc | apply IsS91.drewN | apply IsS91.drew | apply IsS91.set_0 | apply IsS91.set_1 | apply IsS91.set_2 | apply IsS91.set_3 | refine IsS91.far ?_ NB0_101.out _) | exact HI0.out))) : gb107 ≠ g)); replace HI0 := Aside0.mk (IsS91.below (by repeat (first | (with_reducible first | exact HI0.out | apply IsS91.alloc | apply IsS91.drewN | apply IsS91.drew | apply IsS91.set_0 | apply IsS91.set_1 | apply IsS91.set_2 | apply IsS91.set_3 | refine IsS91.far ?_ NB0_101.out _) | exact HI0.out)) hb); clear hb hbox hg; have hnb42 := NB107_101.out; have hnc42 := NB101_107.out; have hnb43 := NB107_0.out; have hnc43 := NB0_107.out; obtain ⟨hcz44_0, hcz44_1, hcz44_2, hcz44_3, hcz44_4, hcz44_5, hfz44_0, hfz44_1, hfz44_2, hfz44_3, hfz44_4, hfz44_5⟩ := blk6 BK107.out) | ((with_reducible refine gate_callee (f := 51) rfl ?_); refine goesL_ (some 9) rfl rfl Tryd.func51 (by kernel_rfl) rfl #[.pointer (some ⟨g, 0, none⟩)] rfl qq0 ?_; (with_reducible refine (wire_reader_status.calls g t103 t104 t105 t106 t108 t109 t110 t111 t112 w0 _ ?side1 ?side2 A3.out).mono ?_); (case side1 => repeat (first | (with_reducible first | exact HI0.out | apply IsS91.alloc | apply IsS91.drewN | apply IsS91.drew | apply IsS91.set_0 | apply IsS91.set_1 | apply IsS91.set_2 | apply IsS91.set_3 | refine IsS91.far ?_ NB0_101.out _ | refine IsS91.far ?_ NB0_107.out _) | exact HI0.out)); (case side2 => repeat (first | (with_reducible first | exact HB.out | apply below_alloc | apply pw_below_drewN | apply below_drew1 | refine below_set ?_ (IsS91.ge HI0.out) | refine below_set ?_ GE101.out | refine below_set ?_ GE107.out) | exact HB.out)); rintro e w45 ⟨rfl, hi, hb, hk⟩; refine ⟨_, rfl, ?_⟩; replace BK101 := Aside0.mk (KeepBut.blk hk (g' := gb101) (o := .cells #[.int .i64 0, .int .i64 0, .int .i64 0, .int .i64 0, .int .i64 0, .string (⟨#[]⟩ : ByteArray)] 39 (0, 0)) (by refine bq ?_; refine blk_far ?_ NB101_107.out _; refine bq ?_; refine blk_far ?_ NB101_107.out _; refine bq ?_; refine blk_far ?_ NB101_107.out _; refine bq ?_; refine blk_far ?_ NB101_107.out _; refine bq ?_; refine blk_far ?_ NB101_107.out _; refine bq ?_; refine blk_far ?_ NB101_107.out _; exact bq BK101.out) NB101_0.out (by simp)); replace BK107 := Aside0.mk (KeepBut.blk hk (g' := gb107) (o := .cells #[.int .i64 t102, .int .i64 0, .int .i64 0, .int .i64 0, .int .i64 0, .string (⟨#[]⟩ : ByteArray)] 39 (0, 0)) (by refine bq ?_; refine blk_put (cs := #[.int .i64 t102, .int .i64 0, .int .i64 0, .int .i64 0, .int .i64 0, .string (⟨#[]⟩ : ByteArray)]) ?_ 5 _ rfl; refine bq ?_; refine blk_put (cs := #[.int .i64 t102, .int .i64 0, .int .i64 0, .int .i64 0, .int .i64 0, .string (⟨#[]⟩ : ByteArray)]) ?_ 4 _ rfl; refine bq ?_; refine blk_put (cs := #[.int .i64 t102, .int .i64 0, .int .i64 0, .int .i64 0, .int .i64 0, .string (⟨#[]⟩ : ByteArray)]) ?_ 3 _ rfl; refine bq ?_; refine blk_put (cs := #[.int .i64 t102, .int .i64 0, .int .i64 0, .int .i64 0, .int .i64 0, .string (⟨#[]⟩ : ByteArray)]) ?_ 2 _ rfl; refine bq ?_; refine blk_put (cs := #[.int .i64 t102, .int .i64 0, .int .i64 0, .int .i64 0, .int .i64 0, .string (⟨#[]⟩ : ByteArray)]) ?_ 1 _ rfl; refine bq ?_; refine blk_put (cs := #[.int .i64 0, .int .i64 0, .int .i64 0, .int .i64 0, .int .i64 0, .string (⟨#[]⟩ : ByteArray)]) ?_ 0 _ rfl; exact bq BK107.out) NB107_0.out (by simp)); replace HK := Aside0.mk (KeepBut.trans (by repeat (first | (with_reducible first | exact HK.out | apply KeepBut.set_ | apply keep_drewN | apply keep_drew | apply keep_alloc | refine keep_far ?_ GW101.out _ | refine keep_far ?_ GW107.out _) | exact HK.out)) hk (.inl rfl)); replace HB := Aside0.mk (hb); replace HI0 := Aside0.mk (hi); (try clear hb); (try clear hb2); (try clear hk); (try clear hi); obtain ⟨HGz46, hgz46⟩ := HI0.out; have hcz46_0 := cellS91_0 HGz46; have hcz46_1 := cellS91_1 HGz46; have hcz46_2 := cellS91_2 HGz46; have hcz46_3 := cellS91_3 HGz46; have hfz46_0 := blk_frozen HGz46 0; have hfz46_1 := blk_frozen HGz46 1; have hfz46_2 := blk_frozen HGz46 2; have hfz46_3 := blk_frozen HGz46 3; clear HGz46 hgz46) | ((with_reducible refine gate_callee (f := 52) rfl ?_); refine goesL_ (some 22) rfl rfl Tryd.func52 (by kernel_rfl) rfl #[.pointer (some ⟨g, 0, none⟩)] rfl qq0 ?_; (with_reducible refine (wire_reader_data.calls g t109 t110 t108 t112 t128 t129 t130 t131 t132 w0 _ ?side1 ?side2 A36.out).mono ?_); (case side1 => repeat (first | (with_reducible first | exact HI0.out | apply IsS91.alloc | apply IsS91.drewN | apply IsS91.drew | apply IsS91.set_0 | apply IsS91.set_1 | apply IsS91.set_2 | apply IsS91.set_3 | refine IsS91.far ?_ NB0_101.out _ | refine IsS91.far ?_ NB0_107.out _) | exact HI0.out)); (case side2 => repeat (first | (with_reducible first | exact HB.out | apply below_alloc | apply pw_below_drewN | apply below_drew1 | refine below_set ?_ (IsS91.ge HI0.out) | refine below_set ?_ GE101.out | refine below_set ?_ GE107.out) | exact HB.out)); rintro e w47 ⟨rfl, hi, hb, hk⟩; refine ⟨_, rfl, ?_⟩; replace BK101 := Aside0.mk (KeepBut.blk hk (g' := gb101) (o := .cells #[.int .i64 0, .int .i64 0, .int .i64 0, .int .i64 0, .int .i64 0, .string (⟨#[]⟩ : ByteArray)] 39 (0, 0)) (by refine bq ?_; refine blk_far ?_ NB101_0.out _; refine bq ?_; refine blk_far ?_ NB101_0.out _; exact bq BK101.out) NB101_0.out (by simp)); replace BK107 := Aside0.mk (KeepBut.blk hk (g' := gb107) (o := .cells #[.int .i64 t102, .int .i64 0, .int .i64 0, .int .i64 0, .int .i64 0, .string (⟨#[]⟩ : ByteArray)] 39 (0, 0)) (by refine bq ?_; refine blk_far ?_ NB107_0.out _; refine bq ?_; refine blk_far ?_ NB107_0.out _; exact bq BK107.out) NB107_0.out (by simp)); replace HK := Aside0.mk (KeepBut.trans (by repeat (first | (with_reducible first | exact HK.out | apply KeepBut.set_ | apply keep_drewN | apply keep_drew | apply keep_alloc | refine keep_far ?_ GW101.out _ | refine keep_far ?_ GW107.out _) | exact HK.out)) hk (.inl rfl)); replace HB := Aside0.mk (hb); replace HI0 := Aside0.mk (hi); (try clear hb); (try clear hb2); (try clear hk); (try clear hi); obtain ⟨hcz48_0, hcz48_1, hcz48_2, hcz48_3, hcz48_4, hcz48_5, hfz48_0, hfz48_1, hfz48_2, hfz48_3, hfz48_4, hfz48_5⟩ := blk6 BK107.out) | ((with_reducible refine gate_callee (f := 25) rfl ?_); refine goesL_ (some 28) rfl rfl Tryd.func25 (by kernel_rfl) rfl #[.int .i64 (wrap64 (Int.tdiv t108 16))] rfl qq0 ?_; (with_reducible refine (wire_one.calls (wrap64 (Int.tdiv t108 16)) true _ A37.out).mono ?_); rintro e w' ⟨rfl, ⟨nd, rfl⟩⟩; refine ⟨_, rfl, ?_⟩; have hnb49 := NB101_0.out; have hnc49 := NB0_101.out; obtain ⟨hcz50_0, hcz50_1, hcz50_2, hcz50_3, hcz50_4, hcz50_5, hfz50_0, hfz50_1, hfz50_2, hfz50_3, hfz50_4, hfz50_5⟩ := blk6 BK101.out))
    refine bodyPost_ret (results_cell_row rfl _ _ gb101 39 #[.int .i64 t102, .int .i64 (wrap64 (Int.tdiv t108 16)), .int .i64 (Int.tmod t108 16), .int .i64 t128, .int .i64 0, .string (⟨#[]⟩ : ByteArray)] (0, 0) _ rfl (by refine bq ?_; refine blk_put (cs := #[.int .i64 t102, .int .i64 (wrap64 (Int.tdiv t108 16)), .int .i64 (Int.tmod t108 16), .int .i64 t128, .int .i64 0, .string (⟨#[]⟩ : ByteArray)]) ?_ 5 _ rfl; refine bq ?_; refine blk_put (cs := #[.int .i64 t102, .int .i64 (wrap64 (Int.tdiv t108 16)), .int .i64 (Int.tmod t108 16), .int .i64 t128, .int .i64 0, .string (⟨#[]⟩ : ByteArray)]) ?_ 4 _ rfl; refine bq ?_; refine blk_put (cs := #[.int .i64 t102, .int .i64 (wrap64 (Int.tdiv t108 16)), .int .i64 (Int.tmod t108 16), .int .i64 0, .int .i64 0, .string (⟨#[]⟩ : ByteArray)]) ?_ 3 _ rfl; refine bq ?_; refine blk_put (cs := #[.int .i64 t102, .int .i64 (wrap64 (Int.tdiv t108 16)), .int .i64 0, .int .i64 0, .int .i64 0, .string (⟨#[]⟩ : ByteArray)]) ?_ 2 _ rfl; refine bq ?_; refine blk_put (cs := #[.int .i64 t102, .int .i64 0, .int .i64 0, .int .i64 0, .int .i64 0, .string (⟨#[]⟩ : ByteArray)]) ?_ 1 _ rfl; refine bq ?_; refine blk_put (cs := #[.int .i64 0, .int .i64 0, .int .i64 0, .int .i64 0, .int .i64 0, .string (⟨#[]⟩ : ByteArray)]) ?_ 0 _ rfl; refine bq ?_; refine blk_far ?_ NB101_107.out _; refine bq ?_; refine blk_far ?_ NB101_107.out _; refine bq ?_; refine blk_far ?_ NB101_107.out _; exact bq BK101.out) Tryd.underlying39 rfl (by kernel_rfl)) rfl ?_
    exact ⟨qq4, by repeat (first | (with_reducible first | exact HI0.out | apply IsS91.alloc | apply IsS91.drewN | apply IsS91.drew | apply IsS91.set_0 | apply IsS91.set_1 | apply IsS91.set_2 | apply IsS91.set_3 | refine IsS91.far ?_ NB0_101.out _ | refine IsS91.far ?_ NB0_107.out _) | exact HI0.out), by repeat (first | (with_reducible first | exact HB.out | apply below_alloc | apply pw_below_drewN | apply below_drew1 | refine below_set ?_ (IsS91.ge HI0.out) | refine below_set ?_ GE101.out | refine below_set ?_ GE107.out) | exact HB.out), by repeat (first | (with_reducible first | exact HK.out | apply KeepBut.set_ | apply keep_drewN | apply keep_drew | apply keep_alloc | refine keep_far ?_ GW101.out _ | refine keep_far ?_ GW107.out _) | exact HK.out)⟩
  replace c38 := Bool.eq_false_iff.mpr c38
  subst c38
  have H1 : ((wire_reader_data.f t129 t130 t131 t132).bind fun bt134 => (some (t102, wrap64 (Int.tdiv t108 16), Int.tmod t108 16, t128, bt134.1, (⟨#[]⟩ : ByteArray), bt134.2.1, bt134.2.2.1, bt134.2.2.2.1, bt134.2.2.2.2))) = some (r1, r2, r3, r4, r5, r6, r7, r8, r9, r10) := by rw [if_neg (show ¬ (false = true) by decide)] at H; exact H
  clear H
  have H := H1
  clear H1
  replace H := Option.bind_eq_some_iff.mp H
  obtain ⟨⟨t134, t135, t136, t137, t138⟩, A510, H⟩ := H
  try dsimp -simprocs only at H
  have A51 := Aside0.mk A510
  clear A510
  simp only [Option.some.injEq, Prod.mk.injEq] at H
  obtain ⟨rfl, rfl, rfl, rfl, rfl, rfl, rfl, rfl, rfl, rfl⟩ := H
  go_enter Tryd.func49, Tryd.ntmps49
  go_wp2_with (first | ((with_reducible refine gate_dst (N := 2) rfl ?_); refine box_event ?hg (N := 2) ?hd (cs := #[.int .i64 0, .int .i64 0, .int .i64 0, .int .i64 0, .int .i64 0, .string (⟨#[]⟩ : ByteArray)]) (t := 39) ?hr ?_; (case hd => rfl); (case hg => rfl); (case hr => exact qq8); intro gb101 hg w52 hbox hb; replace HB := Aside0.mk (below_step (by repeat (first | (with_reducible first | exact HB.out | apply below_alloc | apply pw_below_drewN | apply below_drew1 | refine below_set ?_ (IsS91.ge HI0.out)) | exact HB.out)) hb); have BK101 := Aside0.mk (hbox); have GW101 := Aside0.mk ((qqr : w.heap.size ≤ gb101)); have GE101 := Aside0.mk ((Nat.le_trans HW0.out (qqr : w.heap.size ≤ gb101) : w0.heap.size ≤ gb101)); replace HK := Aside0.mk (KeepBut.trans qq2 (KeepBut.of_below hb g none) (.inl rfl)); have NB0_101 := Aside0.mk ((qqp : g ≠ gb101)); have NB101_0 := Aside0.mk ((qqq : gb101 ≠ g)); replace HI0 := Aside0.mk (IsS91.below qq1 hb); clear hb hbox hg) | ((with_reducible refine gate_callee (f := 50) rfl ?_); refine goesL_ (some 6) rfl rfl Tryd.func50 (by kernel_rfl) rfl #[.pointer (some ⟨g, 0, none⟩)] rfl qq0 ?_; (with_reducible refine (wire_reader_number.calls k g s0_0 s0_1 s0_2 s0_3 t102 t103 t104 t105 t106 w0 _ ?side1 ?side2 A2.out).mono ?_); (case side1 => repeat (first | (with_reducible first | exact HI0.out | apply IsS91.alloc | apply IsS91.drewN | apply IsS91.drew | apply IsS91.set_0 | apply IsS91.set_1 | apply IsS91.set_2 | apply IsS91.set_3 | refine IsS91.far ?_ NB0_101.out _) | exact HI0.out)); (case side2 => repeat (first | (with_reducible first | exact HB.out | apply below_alloc | apply pw_below_drewN | apply below_drew1 | refine below_set ?_ (IsS91.ge HI0.out) | refine below_set ?_ GE101.out) | exact HB.out)); rintro e w53 ⟨rfl, hi, hb, hk⟩; refine ⟨_, rfl, ?_⟩; replace BK101 := Aside0.mk (KeepBut.blk hk (g' := gb101) (o := .cells #[.int .i64 0, .int .i64 0, .int .i64 0, .int .i64 0, .int .i64 0, .string (⟨#[]⟩ : ByteArray)] 39 (0, 0)) (bq BK101.out) NB101_0.out (by simp)); replace HK := Aside0.mk (KeepBut.trans (by repeat (first | (with_reducible first | exact HK.out | apply KeepBut.set_ | apply keep_drewN | apply keep_drew | apply keep_alloc | refine keep_far ?_ GW101.out _) | exact HK.out)) hk (.inl rfl)); replace HB := Aside0.mk (hb); replace HI0 := Aside0.mk (hi); (try clear hb); (try clear hb2); (try clear hk); (try clear hi)) | ((with_reducible refine gate_dst (N := 3) rfl ?_); refine box_event ?hg (N := 3) ?hd (cs := #[.int .i64 0, .int .i64 0, .int .i64 0, .int .i64 0, .int .i64 0, .string (⟨#[]⟩ : ByteArray)]) (t := 39) ?hr ?_; (case hd => rfl); (case hg => rfl); (case hr => exact qq8); intro gb107 hg w54 hbox hb; replace HB := Aside0.mk (below_step (by repeat (first | (with_reducible first | exact HB.out | apply below_alloc | apply pw_below_drewN | apply below_drew1 | refine below_set ?_ (IsS91.ge HI0.out) | refine below_set ?_ GE101.out) | exact HB.out)) hb); have BK107 := Aside0.mk (hbox); have GW107 := Aside0.mk ((by rw [hg]; exact (keep_size (w := w) (g := g) (row := none) (by repeat (first | (with_reducible first | exact HK.out | apply KeepBut.set_ | apply keep_drewN | apply keep_drew | apply keep_alloc | refine keep_far ?_ GW101.out _) | exact HK.out))) : w.heap.size ≤ gb107)); have GE107 := Aside0.mk ((Nat.le_trans HW0.out (by rw [hg]; exact (keep_size (w := w) (g := g) (row := none) (by repeat (first | (with_reducible first | exact HK.out | apply KeepBut.set_ | apply keep_drewN | apply keep_drew | apply keep_alloc | refine keep_far ?_ GW101.out _) | exact HK.out))) : w.heap.size ≤ gb107) : w0.heap.size ≤ gb107)); replace HK := Aside0.mk (KeepBut.trans (by repeat (first | (with_reducible first | exact HK.out | apply KeepBut.set_ | apply keep_drewN | apply keep_drew | apply keep_alloc | refine keep_far ?_ GW101.out _) | exact HK.out)) (KeepBut.of_below hb g none) (.inl rfl)); have NB101_107 := Aside0.mk ((qqc : gb101 ≠ gb107)); have NB107_101 := Aside0.mk ((qqd : gb107 ≠ gb101)); replace BK101 := Aside0.mk (blk_below (bq BK101.out) hb); have NB0_107 := Aside0.mk ((by rw [hg]; exact Nat.ne_of_lt (IsS91.lt (show IsS91 w0 _ g t103 t104 t105 t106 from by repeat (first | (with_reducible first | exact HI0.out | apply IsS91.alloc | apply IsS91.drewN | apply IsS91.drew | apply IsS91.set_0 | apply IsS91.set_1 | apply IsS91.set_2 | apply IsS91.set_3 | refine IsS91.far ?_ NB0_101.out _) | exact HI0.out))) : g ≠ gb107)); have NB107_0 := Aside0.mk ((by rw [hg]; exact Nat.ne_of_gt (IsS91.lt (show IsS91 w0 _ g t103 t104 t105 t106 from by repeat (first | (with_reducible first | exact HI0.out | apply IsS91.alloc | apply IsS91.drewN | apply IsS91.drew | apply IsS91.set_0 | apply IsS91.set_1 | apply IsS91.set_2 | apply IsS91.set_3 | refine IsS91.far ?_ NB0_101.out _) | exact HI0.out))) : gb107 ≠ g)); replace HI0 := Aside0.mk (IsS91.below (by repeat (first | (with_reducible first | exact HI0.out | apply IsS91.alloc | apply IsS91.drewN | apply IsS91.drew | apply IsS91.set_0 | apply IsS91.set_1 | apply IsS91.set_2 | apply IsS91.set_3 | refine IsS91.far ?_ NB0_101.out _) | exact HI0.out)) hb); clear hb hbox hg; have hnb55 := NB107_101.out; have hnc55 := NB101_107.out; have hnb56 := NB107_0.out; have hnc56 := NB0_107.out; obtain ⟨hcz57_0, hcz57_1, hcz57_2, hcz57_3, hcz57_4, hcz57_5, hfz57_0, hfz57_1, hfz57_2, hfz57_3, hfz57_4, hfz57_5⟩ := blk6 BK107.out) | ((with_reducible refine gate_callee (f := 51) rfl ?_); refine goesL_ (some 9) rfl rfl Tryd.func51 (by kernel_rfl) rfl #[.pointer (some ⟨g, 0, none⟩)] rfl qq0 ?_; (with_reducible refine (wire_reader_status.calls g t103 t104 t105 t106 t108 t109 t110 t111 t112 w0 _ ?side1 ?side2 A3.out).mono ?_); (case side1 => repeat (first | (with_reducible first | exact HI0.out | apply IsS91.alloc | apply IsS91.drewN | apply IsS91.drew | apply IsS91.set_0 | apply IsS91.set_1 | apply IsS91.set_2 | apply IsS91.set_3 | refine IsS91.far ?_ NB0_101.out _ | refine IsS91.far ?_ NB0_107.out _) | exact HI0.out)); (case side2 => repeat (first | (with_reducible first | exact HB.out | apply below_alloc | apply pw_below_drewN | apply below_drew1 | refine below_set ?_ (IsS91.ge HI0.out) | refine below_set ?_ GE101.out | refine below_set ?_ GE107.out) | exact HB.out)); rintro e w58 ⟨rfl, hi, hb, hk⟩; refine ⟨_, rfl, ?_⟩; replace BK101 := Aside0.mk (KeepBut.blk hk (g' := gb101) (o := .cells #[.int .i64 0, .int .i64 0, .int .i64 0, .int .i64 0, .int .i64 0, .string (⟨#[]⟩ : ByteArray)] 39 (0, 0)) (by refine bq ?_; refine blk_far ?_ NB101_107.out _; refine bq ?_; refine blk_far ?_ NB101_107.out _; refine bq ?_; refine blk_far ?_ NB101_107.out _; refine bq ?_; refine blk_far ?_ NB101_107.out _; refine bq ?_; refine blk_far ?_ NB101_107.out _; refine bq ?_; refine blk_far ?_ NB101_107.out _; exact bq BK101.out) NB101_0.out (by simp)); replace BK107 := Aside0.mk (KeepBut.blk hk (g' := gb107) (o := .cells #[.int .i64 t102, .int .i64 0, .int .i64 0, .int .i64 0, .int .i64 0, .string (⟨#[]⟩ : ByteArray)] 39 (0, 0)) (by refine bq ?_; refine blk_put (cs := #[.int .i64 t102, .int .i64 0, .int .i64 0, .int .i64 0, .int .i64 0, .string (⟨#[]⟩ : ByteArray)]) ?_ 5 _ rfl; refine bq ?_; refine blk_put (cs := #[.int .i64 t102, .int .i64 0, .int .i64 0, .int .i64 0, .int .i64 0, .string (⟨#[]⟩ : ByteArray)]) ?_ 4 _ rfl; refine bq ?_; refine blk_put (cs := #[.int .i64 t102, .int .i64 0, .int .i64 0, .int .i64 0, .int .i64 0, .string (⟨#[]⟩ : ByteArray)]) ?_ 3 _ rfl; refine bq ?_; refine blk_put (cs := #[.int .i64 t102, .int .i64 0, .int .i64 0, .int .i64 0, .int .i64 0, .string (⟨#[]⟩ : ByteArray)]) ?_ 2 _ rfl; refine bq ?_; refine blk_put (cs := #[.int .i64 t102, .int .i64 0, .int .i64 0, .int .i64 0, .int .i64 0, .string (⟨#[]⟩ : ByteArray)]) ?_ 1 _ rfl; refine bq ?_; refine blk_put (cs := #[.int .i64 0, .int .i64 0, .int .i64 0, .int .i64 0, .int .i64 0, .string (⟨#[]⟩ : ByteArray)]) ?_ 0 _ rfl; exact bq BK107.out) NB107_0.out (by simp)); replace HK := Aside0.mk (KeepBut.trans (by repeat (first | (with_reducible first | exact HK.out | apply KeepBut.set_ | apply keep_drewN | apply keep_drew | apply keep_alloc | refine keep_far ?_ GW101.out _ | refine keep_far ?_ GW107.out _) | exact HK.out)) hk (.inl rfl)); replace HB := Aside0.mk (hb); replace HI0 := Aside0.mk (hi); (try clear hb); (try clear hb2); (try clear hk); (try clear hi); obtain ⟨HGz59, hgz59⟩ := HI0.out; have hcz59_0 := cellS91_0 HGz59; have hcz59_1 := cellS91_1 HGz59; have hcz59_2 := cellS91_2 HGz59; have hcz59_3 := cellS91_3 HGz59; have hfz59_0 := blk_frozen HGz59 0; have hfz59_1 := blk_frozen HGz59 1; have hfz59_2 := blk_frozen HGz59 2; have hfz59_3 := blk_frozen HGz59 3; clear HGz59 hgz59) | ((with_reducible refine gate_callee (f := 52) rfl ?_); refine goesL_ (some 22) rfl rfl Tryd.func52 (by kernel_rfl) rfl #[.pointer (some ⟨g, 0, none⟩)] rfl qq0 ?_; (with_reducible refine (wire_reader_data.calls g t109 t110 t108 t112 t128 t129 t130 t131 t132 w0 _ ?side1 ?side2 A36.out).mono ?_); (case side1 => repeat (first | (with_reducible first | exact HI0.out | apply IsS91.alloc | apply IsS91.drewN | apply IsS91.drew | apply IsS91.set_0 | apply IsS91.set_1 | apply IsS91.set_2 | apply IsS91.set_3 | refine IsS91.far ?_ NB0_101.out _ | refine IsS91.far ?_ NB0_107.out _) | exact HI0.out)); (case side2 => repeat (first | (with_reducible first | exact HB.out | apply below_alloc | apply pw_below_drewN | apply below_drew1 | refine below_set ?_ (IsS91.ge HI0.out) | refine below_set ?_ GE101.out | refine below_set ?_ GE107.out) | exact HB.out)); rintro e w60 ⟨rfl, hi, hb, hk⟩; refine ⟨_, rfl, ?_⟩; replace BK101 := Aside0.mk (KeepBut.blk hk (g' := gb101) (o := .cells #[.int .i64 0, .int .i64 0, .int .i64 0, .int .i64 0, .int .i64 0, .string (⟨#[]⟩ : ByteArray)] 39 (0, 0)) (by refine bq ?_; refine blk_far ?_ NB101_0.out _; refine bq ?_; refine blk_far ?_ NB101_0.out _; exact bq BK101.out) NB101_0.out (by simp)); replace BK107 := Aside0.mk (KeepBut.blk hk (g' := gb107) (o := .cells #[.int .i64 t102, .int .i64 0, .int .i64 0, .int .i64 0, .int .i64 0, .string (⟨#[]⟩ : ByteArray)] 39 (0, 0)) (by refine bq ?_; refine blk_far ?_ NB107_0.out _; refine bq ?_; refine blk_far ?_ NB107_0.out _; exact bq BK107.out) NB107_0.out (by simp)); replace HK := Aside0.mk (KeepBut.trans (by repeat (first | (with_reducible first | exact HK.out | apply KeepBut.set_ | apply keep_drewN | apply keep_drew | apply keep_alloc | refine keep_far ?_ GW101.out _ | refine keep_far ?_ GW107.out _) | exact HK.out)) hk (.inl rfl)); replace HB := Aside0.mk (hb); replace HI0 := Aside0.mk (hi); (try clear hb); (try clear hb2); (try clear hk); (try clear hi); obtain ⟨hcz61_0, hcz61_1, hcz61_2, hcz61_3, hcz61_4, hcz61_5, hfz61_0, hfz61_1, hfz61_2, hfz61_3, hfz61_4, hfz61_5⟩ := blk6 BK107.out) | ((with_reducible refine gate_callee (f := 25) rfl ?_); refine goesL_ (some 28) rfl rfl Tryd.func25 (by kernel_rfl) rfl #[.int .i64 (wrap64 (Int.tdiv t108 16))] rfl qq0 ?_; (with_reducible refine (wire_one.calls (wrap64 (Int.tdiv t108 16)) false _ A37.out).mono ?_); rintro e w' ⟨rfl, ⟨nd, rfl⟩⟩; refine ⟨_, rfl, ?_⟩) | ((with_reducible refine gate_callee (f := 52) rfl ?_); refine goesL_ (some 31) rfl rfl Tryd.func52 (by kernel_rfl) rfl #[.pointer (some ⟨g, 0, none⟩)] rfl qq0 ?_; (with_reducible refine (wire_reader_data.calls g t129 t130 t131 t132 t134 t135 t136 t137 t138 w0 _ ?side1 ?side2 A51.out).mono ?_); (case side1 => repeat (first | (with_reducible first | exact HI0.out | apply IsS91.alloc | apply IsS91.drewN | apply IsS91.drew | apply IsS91.set_0 | apply IsS91.set_1 | apply IsS91.set_2 | apply IsS91.set_3 | refine IsS91.far ?_ NB0_101.out _ | refine IsS91.far ?_ NB0_107.out _) | exact HI0.out)); (case side2 => repeat (first | (with_reducible first | exact HB.out | apply below_alloc | apply pw_below_drewN | apply below_drew1 | refine below_set ?_ (IsS91.ge HI0.out) | refine below_set ?_ GE101.out | refine below_set ?_ GE107.out) | exact HB.out)); rintro e w62 ⟨rfl, hi, hb, hk⟩; refine ⟨_, rfl, ?_⟩; replace BK101 := Aside0.mk (KeepBut.blk hk (g' := gb101) (o := .cells #[.int .i64 0, .int .i64 0, .int .i64 0, .int .i64 0, .int .i64 0, .string (⟨#[]⟩ : ByteArray)] 39 (0, 0)) (by refine bq ?_; refine blk_far ?_ NB101_107.out _; refine bq ?_; refine blk_far ?_ NB101_107.out _; refine bq ?_; refine blk_far ?_ NB101_107.out _; exact bq BK101.out) NB101_0.out (by simp)); replace BK107 := Aside0.mk (KeepBut.blk hk (g' := gb107) (o := .cells #[.int .i64 t102, .int .i64 (wrap64 (Int.tdiv t108 16)), .int .i64 (Int.tmod t108 16), .int .i64 t128, .int .i64 0, .string (⟨#[]⟩ : ByteArray)] 39 (0, 0)) (by refine bq ?_; refine blk_put (cs := #[.int .i64 t102, .int .i64 (wrap64 (Int.tdiv t108 16)), .int .i64 (Int.tmod t108 16), .int .i64 0, .int .i64 0, .string (⟨#[]⟩ : ByteArray)]) ?_ 3 _ rfl; refine bq ?_; refine blk_put (cs := #[.int .i64 t102, .int .i64 (wrap64 (Int.tdiv t108 16)), .int .i64 0, .int .i64 0, .int .i64 0, .string (⟨#[]⟩ : ByteArray)]) ?_ 2 _ rfl; refine bq ?_; refine blk_put (cs := #[.int .i64 t102, .int .i64 0, .int .i64 0, .int .i64 0, .int .i64 0, .string (⟨#[]⟩ : ByteArray)]) ?_ 1 _ rfl; exact bq BK107.out) NB107_0.out (by simp)); replace HK := Aside0.mk (KeepBut.trans (by repeat (first | (with_reducible first | exact HK.out | apply KeepBut.set_ | apply keep_drewN | apply keep_drew | apply keep_alloc | refine keep_far ?_ GW101.out _ | refine keep_far ?_ GW107.out _) | exact HK.out)) hk (.inl rfl)); replace HB := Aside0.mk (hb); replace HI0 := Aside0.mk (hi); (try clear hb); (try clear hb2); (try clear hk); (try clear hi); obtain ⟨hcz63_0, hcz63_1, hcz63_2, hcz63_3, hcz63_4, hcz63_5, hfz63_0, hfz63_1, hfz63_2, hfz63_3, hfz63_4, hfz63_5⟩ := blk6 BK107.out; have hnb64 := NB101_0.out; have hnc64 := NB0_101.out; obtain ⟨hcz65_0, hcz65_1, hcz65_2, hcz65_3, hcz65_4, hcz65_5, hfz65_0, hfz65_1, hfz65_2, hfz65_3, hfz65_4, hfz65_5⟩ := blk6 BK101.out))
  refine bodyPost_ret (results_cell_row rfl _ _ gb101 39 #[.int .i64 t102, .int .i64 (wrap64 (Int.tdiv t108 16)), .int .i64 (Int.tmod t108 16), .int .i64 t128, .int .i64 t134, .string (⟨#[]⟩ : ByteArray)] (0, 0) _ rfl (by refine bq ?_; refine blk_put (cs := #[.int .i64 t102, .int .i64 (wrap64 (Int.tdiv t108 16)), .int .i64 (Int.tmod t108 16), .int .i64 t128, .int .i64 t134, .string (⟨#[]⟩ : ByteArray)]) ?_ 5 _ rfl; refine bq ?_; refine blk_put (cs := #[.int .i64 t102, .int .i64 (wrap64 (Int.tdiv t108 16)), .int .i64 (Int.tmod t108 16), .int .i64 t128, .int .i64 0, .string (⟨#[]⟩ : ByteArray)]) ?_ 4 _ rfl; refine bq ?_; refine blk_put (cs := #[.int .i64 t102, .int .i64 (wrap64 (Int.tdiv t108 16)), .int .i64 (Int.tmod t108 16), .int .i64 0, .int .i64 0, .string (⟨#[]⟩ : ByteArray)]) ?_ 3 _ rfl; refine bq ?_; refine blk_put (cs := #[.int .i64 t102, .int .i64 (wrap64 (Int.tdiv t108 16)), .int .i64 0, .int .i64 0, .int .i64 0, .string (⟨#[]⟩ : ByteArray)]) ?_ 2 _ rfl; refine bq ?_; refine blk_put (cs := #[.int .i64 t102, .int .i64 0, .int .i64 0, .int .i64 0, .int .i64 0, .string (⟨#[]⟩ : ByteArray)]) ?_ 1 _ rfl; refine bq ?_; refine blk_put (cs := #[.int .i64 0, .int .i64 0, .int .i64 0, .int .i64 0, .int .i64 0, .string (⟨#[]⟩ : ByteArray)]) ?_ 0 _ rfl; refine bq ?_; refine blk_far ?_ NB101_107.out _; exact bq BK101.out) Tryd.underlying39 rfl (by kernel_rfl)) rfl ?_
  exact ⟨qq4, by repeat (first | (with_reducible first | exact HI0.out | apply IsS91.alloc | apply IsS91.drewN | apply IsS91.drew | apply IsS91.set_0 | apply IsS91.set_1 | apply IsS91.set_2 | apply IsS91.set_3 | refine IsS91.far ?_ NB0_101.out _ | refine IsS91.far ?_ NB0_107.out _) | exact HI0.out), by repeat (first | (with_reducible first | exact HB.out | apply below_alloc | apply pw_below_drewN | apply below_drew1 | refine below_set ?_ (IsS91.ge HI0.out) | refine below_set ?_ GE101.out | refine below_set ?_ GE107.out) | exact HB.out), by repeat (first | (with_reducible first | exact HK.out | apply KeepBut.set_ | apply keep_drewN | apply keep_drew | apply keep_alloc | refine keep_far ?_ GW101.out _ | refine keep_far ?_ GW107.out _) | exact HK.out)⟩
def wire_Decode.l0 : Nat → ByteArray → List (S39) → ByteArray → Int → Int → Option ((List (S39)) × Int × Int)
  | 0, _, _, _, _, _ => none
  | k + 1, x0, x5, y0, y1, y2 => if y1 < (x0.size : Int) then ((wire_reader_message.f k y0 y1 y2 0).bind fun b => (if b.2.2.2.2.2.2.2.2.2 = 0 then (if x5.length < 2513169434916 then (wire_Decode.l0 k x0 (x5 ++ [(⟨b.1, b.2.1, b.2.2.1, b.2.2.2.1, b.2.2.2.2.1, b.2.2.2.2.2.1⟩ : S39)]) b.2.2.2.2.2.2.1 b.2.2.2.2.2.2.2.1 b.2.2.2.2.2.2.2.2.1) else (none)) else (some (([] : List (S39)), y1, b.2.2.2.2.2.2.2.2.2)))) else (some (x5, 0, 0))
def wire_Decode.f (k : Nat) (a0 : ByteArray) : Option ((List (S39)) × Int × Int) := wire_Decode.l0 k a0 ([] : List (S39)) a0 0 0
theorem wire_Decode.mono_l : ∀ k, (∀ y0 y1 y2 y3 y4, LeO (wire_Decode.l0 k y0 y1 y2 y3 y4) (wire_Decode.l0 (k + 1) y0 y1 y2 y3 y4))
  | 0 => fun _ _ _ _ _ r h => by simp [wire_Decode.l0] at h
  | k + 1 => by
    have ih0 := wire_Decode.mono_l k
    · intro y0 y1 y2 y3 y4
      unfold wire_Decode.l0
      repeat' first
      | (with_reducible exact ih0 _ _ _ _ _)
      | (with_reducible exact wire_reader_message.mono _ _ _ _ _)
      | (with_reducible exact LeO.refl _)
      | (with_reducible exact LeO.none _)
      | (with_reducible refine LeO.ite ?_ ?_)
      | (with_reducible refine LeO.bind ?_ (fun _ => ?_))
      | exact ih0 _ _ _ _ _
      | exact wire_reader_message.mono _ _ _ _ _
      | exact LeO.none _
      | refine LeO.ite ?_ ?_
      | refine LeO.bind ?_ (fun _ => ?_)
theorem wire_Decode.mono : ∀ a0 k, LeO (wire_Decode.f k a0) (wire_Decode.f (k + 1) a0) := fun a0 k => wire_Decode.mono_l k a0 [] a0 0 0
set_option maxHeartbeats 8000000 in
set_option maxRecDepth 100000 in
theorem wire_Decode.calls (k : Nat) (a0 : ByteArray) (r1 : List (S39)) (r2 : Int) (r3 : Int) (w : World) (h : wire_Decode.f k a0 = some (r1, r2, r3)) :
    Calls Tryd.prog 41 #[.string a0] w fun e w' => ∃ v0_ : Value, e = .returned (.tuple #[v0_, .int .i64 r2, .int .i64 r3]) ∧ Kd.R k39 39 w' w.heap.size (fun _ => True) v0_ r1 ∧ Below w.heap.size w w' := by
  have hu39 := Tryd.underlying39
  have hu91 := Tryd.underlying91
  have HB0 := Aside0.mk (Below.refl w.heap.size w)
  have H := h
  unfold wire_Decode.f at H
  clear h
  have H' := Aside0.mk H
  clear H
  have HS := Aside0.mk (IsS91.new w w a0 0 0 0 (Below.refl _ _))
  go_enter Tryd.func41, Tryd.ntmps41
  go_wp2
  go_loopg [5] k (fun kq v5 w' => ∃ (x5_1 : List (S39)) (y0 : ByteArray) (y1 y2 : Int), Aside0 (wire_Decode.l0 kq a0 x5_1 y0 y1 y2 = some (r1, r2, r3)) ∧ Aside0 (kq ≤ k) ∧ Aside0 (Kd.R k39 39 w' w.heap.size (fun _ => True) v5 x5_1) ∧ Aside0 (IsS91 w w' w.heap.size y0 y1 y2 0) ∧ Aside0 (Below w.heap.size w w'))
  case atStart => exact ⟨([] : List (S39)), a0, 0, 0, H', ⟨Nat.le_refl _⟩, ⟨Kd.R_nil _ _ _ _ _⟩, HS, ⟨(Below.refl _ _).alloc (Nat.le_refl _) _⟩⟩
  case round =>
    clear H' HS HB0
    obtain ⟨x5_1, y0, y1, y2, HA, HK1, HO_5, HS, HB⟩ := hrel
    cases gk with
    | zero => exact absurd HA.out (by simp [wire_Decode.l0])
    | succ k1 =>
      have H := HA.out
      clear HA
      simp only [wire_Decode.l0] at H
      have cy1 := cellS91_1 HS.out.1
      by_cases c2 : y1 < (a0.size : Int)
      rotate_left
      · rw [if_neg c2] at H
        have c2b0 : decide (y1 < (a0.size : Int)) = false := decide_eq_false c2
        clear c2
        simp only [Option.some.injEq, Prod.mk.injEq] at H
        obtain ⟨rfl, rfl, rfl⟩ := H
        go_wp2
        go_ret3
        exact ⟨_, rfl, HO_5.out, HB.out⟩
      rw [if_pos c2] at H
      have c2b0 : decide (y1 < (a0.size : Int)) = true := decide_eq_true c2
      clear c2
      replace H := Option.bind_eq_some_iff.mp H
      obtain ⟨⟨t1, t2, t3, t4, t5, t6, s1, s2, s3, s4⟩, A30, H⟩ := H
      try dsimp -simprocs only at H
      have A3 := Aside0.mk A30
      clear A30
      have H' := Aside0.mk H
      clear H
      go_wp2_with fail
      refine (wire_reader_message.calls k1 w.heap.size y0 y1 y2 0 t1 t2 t3 t4 t5 t6 s1 s2 s3 s4 w _ HS.out HB.out A3.out).mono ?_
      rintro e w6 ⟨rfl, hi, hb, hk⟩
      have HO6 := Aside0.mk (Kd.R_keep (Kd.R_types HO_5.out HS.out.1 (by decide)) hk (fun _ hk => hk.2))
      have HS6 := Aside0.mk hi
      have HB6 := Aside0.mk hb
      clear hi hb hk HO_5 HS HB cy1
      have ce : w6.cell? ⟨w.heap.size, 3, none⟩ = some (.int .i64 s4) := cellS91_3 HS6.out.1
      have hlt : w.heap.size < w6.heap.size := IsS91.lt HS6.out
      have hne : w.heap.size ≠ w6.heap.size := Nat.ne_of_lt hlt
      have H := H'.out
      clear H'
      by_cases c4 : s4 = 0
      rotate_left
      · rw [if_neg c4] at H
        have c4b1 : (s4 != 0) = true := bne_iff_ne.mpr c4
        simp only [Option.some.injEq, Prod.mk.injEq] at H
        obtain ⟨rfl, rfl, rfl⟩ := H
        go_wp2_with fail
        go_quiet (fail)
        go_wp2_with fail
        go_ret3
        exact ⟨_, rfl, Kd.R_nil _ _ _ _ _, pw_below_drewN (below_alloc HB6.out _) _⟩
      rw [if_pos c4] at H
      by_cases c5 : x5_1.length < 2513169434916
      rotate_left
      · rw [if_neg c5] at H
        exact absurd H (by simp)
      rw [if_pos c5] at H
      have c4b1 : (s4 != 0) = false := bne_eq_false_iff_eq.mpr c4
      have LM := Aside0.mk c5
      have H' := Aside0.mk H
      have C4 := Aside0.mk c4
      clear H c4 c5
      have HO7 := Aside0.mk (Kd.R_mono (Kd.R_alloc (o := .cells #[.int .i64 t1, .int .i64 t2, .int .i64 t3, .int .i64 t4, .int .i64 t5, .string t6] 39) HO6.out) (fun _ _ => trivial) : Kd.R k39 39 _ w.heap.size (fun _ => True) u5 x5_1)
      have HS7 := Aside0.mk (HS6.out.alloc (.cells #[.int .i64 t1, .int .i64 t2, .int .i64 t3, .int .i64 t4, .int .i64 t5, .string t6] 39))
      have HB7 := Aside0.mk (below_alloc HB6.out (.cells #[.int .i64 t1, .int .i64 t2, .int .i64 t3, .int .i64 t4, .int .i64 t5, .string t6] 39))
      go_wp2_with (((with_reducible refine gate_builtin (b := .append) (xs := #[.tmp 35, .tmp 37]) rfl ?_); at_builtin; go_loud (refine Kd.R_append k39 (w0 := w) w.heap.size rfl (.tmp 35) (.tmp 37) 33 39 (.agg #[(.int .i64 0), (.int .i64 0), (.int .i64 0), (.int .i64 0), (.int .i64 0), (.string ⟨#[]⟩)]) 56 rfl Tryd.underlying33 info39 rfl (by decide) (by omega) u5 x5_1 (⟨t1, t2, t3, t4, t5, t6⟩ : S39) [.int .i64 t1, .int .i64 t2, .int .i64 t3, .int .i64 t4, .int .i64 t5, .string t6] (fun _ => True) (fun _ => False) rfl qq8 ?aP (fun _ hk => hk.elim) ?aF ?aO ?aB ?aS ?aL ?_); (case aP => exact k39_mkM _ _ _ (⟨t1, t2, t3, t4, t5, t6⟩ : S39)); (case aF => exact (fun _ _ => trivial)); (case aO => exact HO7.out); (case aB => exact HB7.out); (case aS => exact below_size HB7.out); (case aL => have := LM.out; omega); intro v9 w9 ho hb hg hat; have HO9 := Aside0.mk ho; have HB9 := Aside0.mk hb; have HS9 := Aside0.mk (HS7.out.grown hg (Kd.R_ne HO7.out HS7.out.1 (by decide))); clear ho hb hg hat))
      go_roundg k1
      case measure => have := HK1.out; omega
      case rel => exact ⟨_, s1, s2, s3, H', ⟨qqm⟩, HO9, ⟨by have h9 := HS9.out; rw [C4.out] at h9; exact h9⟩, HB9⟩
end Go.Proofs.YtdmnknhlibaaoaaDoor.M
namespace Go.Proofs.YtdmnknhlibaaoaaDoor.M
open Go.RowKit Go.Proofs.YtdmnknhlibaaoaaDoorW.PrintWords Go.Proofs.YtdmnknhlibaaoaaDoorW.PrintLast Go.Proofs.YtdmnknhlibaaoaaDoorW.PrintMore
set_option linter.unusedVariables false
set_option linter.unusedSimpArgs false
def chunkF (k : Nat) (s : ByteArray) (p : Int) : Option (Except (Int × Int) (List S39 × Int)) :=
  if (s.size : Int) - p < 4 then some (.error (s.size, 152))
  else if (s.size : Int) - (p + 4) < 4 then some (.error (s.size, 152))
  else if (s.size : Int) - (p + 8) < numB (s.extract (p + 4).toNat (p + 8).toNat) 4 then some (.error (s.size, 152))
  else if (s.extract p.toNat (p + 4).toNat).toList = ([77, 84, 114, 107] : List UInt8) then
    (wire_Decode.f k (s.extract (p + 8).toNat (p + 8 + numB (s.extract (p + 4).toNat (p + 8).toNat) 4).toNat)).bind fun d =>
      if d.2.2 = 0 then (smf_ends.f k d.1).bind fun b => if b = true then some (.ok (d.1, p + 8 + numB (s.extract (p + 4).toNat (p + 8).toNat) 4)) else some (.error (p + 8, 160))
      else some (.error (wrap64 (p + 8 + d.2.1), d.2.2))
  else some (.ok ([], p + 8 + numB (s.extract (p + 4).toNat (p + 8).toNat) 4))
def ChunkEnd (s : ByteArray) (g : Nat) (w0 w : World) (r : Except (Int × Int) (List S39 × Int)) (e : Ending) (w' : World) : Prop := Below w0.heap.size w0 w' ∧ KeepBut w w' g none ∧
  (match r with
  | .error (a, c) => e = gone a c
  | .ok (l, q) => ∃ v, e = .returned v ∧ (l = [] → v = .slice none 0 0) ∧ Kd.R k39 39 w' w.heap.size (fun _ => True) v l ∧ IsS63 w0 w' g s q)
set_option maxHeartbeats 8000000 in
set_option maxRecDepth 100000 in
theorem chunk_calls (k : Nat) (g : Nat) (s : ByteArray) (p : Int) (r : Except (Int × Int) (List S39 × Int)) (w0 w : World) (hI : IsS63 w0 w g s p) (hB : Below w0.heap.size w0 w) (hp : 0 ≤ p ∧ p ≤ s.size) (hs : s.size ≤ 100000) (h : chunkF k s p = some r) :
    Calls Tryd.prog 21 #[.pointer (some ⟨g, 0, none⟩)] w (ChunkEnd s g w0 w r) := by
  have hcv : ∀ (W : World) (t : ByteArray), (convert 9 56 (.string t)).run Tryd.prog W = .ok (.slice (some ⟨W.heap.size, 0, none⟩) t.size (grownCap W t.size 0 5)) (Lib.bytesWorld W 5 t) := fun W t => Lib.run_convert_string_bytes W 9 56 5 t Tryd.underlying9 Tryd.underlying56 Tryd.underlying5
  have HI := Aside0.mk hI
  have HB := Aside0.mk hB
  have H := Aside0.mk h
  clear hI hB h
  by_cases c1 : (s.size : Int) - p < 4
  · have hr : r = .error ((s.size : Int), 152) := by have := H.out; unfold chunkF at this; rw [if_pos c1] at this; exact (Option.some.inj this).symm
    subst hr
    go_enter Tryd.func21, Tryd.ntmps21
    go_wp2_with fail
    go_at_call 40
    refine (take_calls g s p 4 w0 w HI.out HB.out hp hs (by omega)).mono ?_
    rintro e w1 ⟨hb, hk, ⟨_, he⟩ | ⟨hh, _⟩⟩
    · have HE := Aside0.mk (show ChunkEnd s g w0 w (.error ((s.size : Int), 152)) e w1 from ⟨hb, hk, he⟩)
      clear hb hk
      simp only [gone] at he
      subst he
      go_wp2_with fail
      exact ⟨rfl, HE.out⟩
    · omega
  · have C1 := Aside0.mk c1
    clear c1
    go_enter Tryd.func21, Tryd.ntmps21
    go_wp2_with fail
    go_at_call 40
    refine (take_calls g s p 4 w0 w HI.out HB.out hp hs (by omega)).mono ?_
    rintro e w1 ⟨hb, hk, ⟨hh, _⟩ | ⟨_, he, hi⟩⟩
    · have := C1.out; omega
    subst he
    have HI1 := Aside0.mk hi
    have HB1 := Aside0.mk hb
    have HK1 := Aside0.mk hk
    clear hi hb hk HI HB
    go_wp2_with fail
    go_at_call 40
    refine (take_calls g s (p + 4) 4 w0 w1 HI1.out HB1.out (by have := C1.out; omega) hs (by omega)).mono ?_
    by_cases c2 : (s.size : Int) - (p + 4) < 4
    · have hr : r = .error ((s.size : Int), 152) := by have := H.out; unfold chunkF at this; rw [if_neg (by have := C1.out; omega), if_pos c2] at this; exact (Option.some.inj this).symm
      subst hr
      rintro e w2 ⟨hb, hk, ⟨_, he⟩ | ⟨hh, _⟩⟩
      · have HE := Aside0.mk (show ChunkEnd s g w0 w (.error ((s.size : Int), 152)) e w2 from ⟨hb, HK1.out.trans hk (.inl rfl), he⟩)
        clear hb hk
        simp only [gone] at he
        subst he
        go_wp2_with fail
        exact ⟨rfl, HE.out⟩
      · omega
    have C2 := Aside0.mk c2
    clear c2
    rintro e w2 ⟨hb, hk, ⟨hh, _⟩ | ⟨_, he, hi⟩⟩
    · have := C2.out; omega
    rw [show p + 4 + 4 = p + 8 by omega] at he hi
    obtain ⟨t, ht⟩ : ∃ t : ByteArray, t = s.extract (p + 4).toNat (p + 8).toNat := ⟨_, rfl⟩
    have hts : t.size = 4 := by rw [ht]; simp [ByteArray.size_extract]; have := C2.out; omega
    have hid : ∃ id : ByteArray, id = s.extract p.toNat (p + 4).toNat := ⟨_, rfl⟩
    obtain ⟨id, hid⟩ := hid
    rw [← ht] at he
    rw [← hid]
    subst he
    have HI2 := Aside0.mk hi
    have HB2 := Aside0.mk hb
    have HK2 := Aside0.mk (HK1.out.trans hk (.inl rfl))
    have HT := Aside0.mk ht
    have HID := Aside0.mk hid
    clear hi hb hk HI1 HB1 HK1 ht hid
    go_wp2
    go_loopw [4, 18] (fun n i wr => ∃ j : Nat, j ≤ 4 ∧ n = .int .i64 (numB t j) ∧ i = .int .i64 (j : Int) ∧ wr = Lib.bytesWorld w2 5 t) (fun _ i _ => 4 - (intOf i).toNat)
    case atStart => exact ⟨0, by omega, rfl, rfl, rfl⟩
    case round =>
      obtain ⟨j, hj, rfl, rfl, rfl⟩ := hrel
      by_cases hlt : j < 4
      · have hcell := conv_cell w2 t j (by omega)
        have hd : decide ((j : Int) < 4) = true := decide_eq_true (by omega)
        have hb0 := bt_range t (j : Int)
        have hbw : wrap64 (bt t (j : Int)) = bt t (j : Int) := by unfold wrap64; omega
        go_wp2
        go_roundw
        case rel => exact ⟨j + 1, by omega, by rw [numB, orB, i64_w], by go_num, trivial⟩
        case measure => simp [intOf]; omega
      · obtain rfl : j = 4 := by omega
        obtain ⟨n, hn⟩ : ∃ n : Int, n = numB t 4 := ⟨_, rfl⟩
        have hnr := (numB_range t).2.2.2
        rw [← hn] at hnr
        rw [← hn]
        have hI3 : IsS63 w0 (Lib.bytesWorld w2 5 t) g s (p + 8) := ⟨(Lib.bytesWorld_at_old w2 5 t g HI2.out.lt).trans HI2.out.1, HI2.out.2⟩
        have HI3 := Aside0.mk hI3
        have HB3 := Aside0.mk (bytes_below HB2.out HB2.out.size 5 t)
        have HK3 := Aside0.mk (HK2.out.trans (KeepBut.of_below (bytes_below (Below.refl w2.heap.size w2) (Nat.le_refl _) 5 t) g none) (.inl rfl))
        have hc1 := cellS63_1 hI3.1
        have HN := Aside0.mk hn
        clear HI2 HB2 HK2 hI3 hn
        go_wp2_with fail
        have hK := H.out
        unfold chunkF at hK
        rw [if_neg (by have := C1.out; omega), if_neg (by have := C2.out; omega), ← HT.out, ← HN.out, ← HID.out] at hK
        have HH := Aside0.mk hK
        clear hK H
        go_at_call 40
        refine (take_calls g s (p + 8) n w0 _ HI3.out HB3.out (by have := C2.out; omega) hs (by omega)).mono ?_
        by_cases c3 : (s.size : Int) - (p + 8) < n
        · have hr : r = .error ((s.size : Int), 152) := by have := HH.out; rw [if_pos c3] at this; exact (Option.some.inj this).symm
          subst hr
          rintro e w3 ⟨hb, hk, ⟨_, he⟩ | ⟨hh, _⟩⟩
          · have HE := Aside0.mk (show ChunkEnd s g w0 w (.error ((s.size : Int), 152)) e w3 from ⟨hb, HK3.out.trans hk (.inl rfl), he⟩)
            clear hb hk
            simp only [gone] at he
            subst he
            go_wp2_with fail
            exact ⟨rfl, HE.out⟩
          · omega
        have hK := HH.out
        rw [if_neg c3] at hK
        have HH := Aside0.mk hK
        have C3 := Aside0.mk c3
        clear c3 hK
        rintro e w3 ⟨hb, hk, ⟨hh, _⟩ | ⟨_, he, hi⟩⟩
        · have := C3.out; omega
        obtain ⟨d, hdd⟩ : ∃ d : ByteArray, d = s.extract (p + 8).toNat (p + 8 + n).toNat := ⟨_, rfl⟩
        rw [← hdd] at he
        subst he
        have hK := HH.out
        rw [← hdd] at hK
        have HI4 := Aside0.mk hi
        have HB4 := Aside0.mk hb
        have HK4 := Aside0.mk (HK3.out.trans hk (.inl rfl))
        clear hi hb hk HI3 HB3 HK3 hc1 HH hdd
        by_cases c4 : id.toList = ([77, 84, 114, 107] : List UInt8)
        · rw [if_pos c4] at hK
          have c4b0 : (id.toList == ([77, 84, 114, 107] : List UInt8)) = true := beq_iff_eq.mpr c4
          have c4b1 : (id.toList != ([77, 84, 114, 107] : List UInt8)) = false := bne_eq_false_iff_eq.mpr c4
          clear c4
          obtain ⟨⟨l, q, x⟩, hD, hR⟩ := Option.bind_eq_some_iff.mp hK
          replace hR : (if x = 0 then (smf_ends.f k l).bind fun b => if b = true then some (Except.ok (l, p + 8 + n)) else some (Except.error (p + 8, 160)) else some (Except.error (wrap64 (p + 8 + q), x))) = some r := hR
          have HD := Aside0.mk hD
          have HR := Aside0.mk hR
          clear hK hD hR
          go_wp2_with fail
          go_at_call 41
          refine (wire_Decode.calls k d l q x _ HD.out).mono ?_
          rintro e w4 ⟨v, rfl, ho, hb⟩
          obtain ⟨A, cap, rfl⟩ := Kd.R_slice ho
          have HO := Aside0.mk ho
          have HI5 := Aside0.mk (HI4.out.below hb)
          have HB5 := Aside0.mk (below_step HB4.out hb)
          have HK5 := Aside0.mk (HK4.out.trans (KeepBut.of_below hb g none) (.inl rfl))
          have hsz := HK4.out.1
          clear ho hb
          by_cases c5 : x = 0
          · have hR := HR.out
            rw [if_pos c5] at hR
            have c5b0 : (x == 0) = true := beq_iff_eq.mpr c5
            have c5b1 : (x != 0) = false := bne_eq_false_iff_eq.mpr c5
            clear c5
            obtain ⟨b, hE, hR⟩ := Option.bind_eq_some_iff.mp hR
            have HE := Aside0.mk hE
            have HR2 := Aside0.mk hR
            clear hE hR HR
            go_wp2_with fail
            go_at_call 28
            refine (smf_ends.calls k A cap l b _ (Kd.R_reads' HO.out).2.2 (Kd.R_reads' HO.out).2.1 HE.out).mono ?_
            rintro e w5 ⟨rfl, hb⟩
            have HI6 := Aside0.mk (HI5.out.below hb)
            have HB6 := Aside0.mk (below_step HB5.out hb)
            have HK6 := Aside0.mk (HK5.out.trans (KeepBut.of_below hb g none) (.inl rfl))
            have HO6 := Aside0.mk (Kd.R_below (Kd.R_lower HO.out hsz) hb)
            clear hb hsz
            cases b with
            | true =>
              have hr : r = .ok (l, p + 8 + n) := by have := HR2.out; rw [if_pos rfl] at this; exact (Option.some.inj this).symm
              subst hr
              have HL : Aside0 (l = [] → (Value.slice A l.length cap) = .slice none 0 0) := ⟨fun hl => by have h9 := HE.out; subst hl; simp [smf_ends.f] at h9⟩
              go_wp2
              go_ret
              exact ⟨HB6.out, HK6.out, _, rfl, HL.out, HO6.out, HI6.out⟩
            | false =>
              have hr : r = .error (p + 8, 160) := by have := HR2.out; rw [if_neg (by decide)] at this; exact (Option.some.inj this).symm
              subst hr
              go_wp2_with (go_at_call 22; refine (fail_calls _ _ _).mono ?_; rintro e w' ⟨he, rfl⟩; simp only [gone] at he; subst he)
              exact ⟨rfl, HB6.out, HK6.out, rfl⟩
          · have hR := HR.out
            rw [if_neg c5] at hR
            have c5b0 : (x == 0) = false := beq_eq_false_iff_ne.mpr c5
            have c5b1 : (x != 0) = true := bne_iff_ne.mpr c5
            clear c5
            have hr : r = .error (wrap64 (p + 8 + q), x) := (Option.some.inj hR).symm
            subst hr
            clear hR HR
            go_wp2_with (go_at_call 22; refine (fail_calls _ _ _).mono ?_; rintro e w' ⟨he, rfl⟩; simp only [gone] at he; subst he)
            exact ⟨rfl, HB5.out, HK5.out, rfl⟩
        · rw [if_neg c4] at hK
          have c4b0 : (id.toList == ([77, 84, 114, 107] : List UInt8)) = false := beq_eq_false_iff_ne.mpr c4
          have c4b1 : (id.toList != ([77, 84, 114, 107] : List UInt8)) = true := bne_iff_ne.mpr c4
          clear c4
          have hr : r = .ok ([], p + 8 + n) := (Option.some.inj hK).symm
          subst hr
          clear hK
          go_wp2
          go_ret
          exact ⟨HB4.out, HK4.out, _, rfl, fun _ => rfl, Kd.R_nil _ _ _ _ _, HI4.out⟩
end Go.Proofs.YtdmnknhlibaaoaaDoor.M
namespace Go.Proofs.YtdmnknhlibaaoaaDoor.M
open Go.RowKit Go.Proofs.YtdmnknhlibaaoaaDoorW.PrintWords Go.Proofs.YtdmnknhlibaaoaaDoorW.PrintLast Go.Proofs.YtdmnknhlibaaoaaDoorW.PrintMore
set_option linter.unusedVariables false
set_option linter.unusedSimpArgs false
theorem info60 : (Tryd.prog.info? 60).map (fun i => i.zero) = some (some (.agg #[.int .i64 0, .int .i64 0])) := by kernel_rfl
theorem assert_nil (w : World) : (Instr.typeAssert .nilIface 20 60 true).run Tryd.prog w = .ok (.tuple #[.agg #[.int .i64 0, .int .i64 0], .bool false]) w := by
  have h := info60
  cases hi : Tryd.prog.info? 60 with
  | none => rw [hi] at h; cases h
  | some i =>
    rw [hi] at h
    have hz : i.zero = some (.agg #[.int .i64 0, .int .i64 0]) := Option.some.inj h
    simp [Instr.typeAssert, run_underlying Tryd.underlying60, zeroValue, typeInfo, hi, hz, Result.andThen]
theorem assert_wrong (v : Value) (w : World) : (Instr.typeAssert (.iface 60 v) 20 60 true).run Tryd.prog w = .ok (.tuple #[v, .bool true]) w := by
  simp [Instr.typeAssert, run_underlying Tryd.underlying60, Result.andThen]
theorem catch_idle (fb ab eb : Nat) (w : World) :
    CallsD Tryd.prog 19 #[.pointer (some ⟨fb, 0, none⟩), .pointer (some ⟨ab, 0, none⟩), .pointer (some ⟨eb, 0, none⟩)] .returning w fun e u' w' => e = .returned (.tuple #[]) ∧ u' = .returning ∧ w' = w := by
  have ha := assert_nil
  refine callsD_of_wpS Tryd.func19 rfl fun c₀ cs hu => ?_
  apply wpS_seq
  apply wpS_region
  simp [wpOpsS, go_sem, recoverD, hu, Tryd.ntmps19, Exit.thenS]
  refine wpS_of_wp ?_
  go_wp2
  all_goals
    cases c₀
    simp_all [bodyPostS, results, Tryd.results19]
def CaughtEnd (fb ab eb : Nat) (a c : Int) (w0 w : World) (w' : World) : Prop := w'.heap[fb]? = some (.cells #[.int .i64 0, .int .i64 0, .slice none 0 0] 32 (0, 0)) ∧ w'.heap[ab]? = some (.cells #[.int .i64 a] 3 (0, 0)) ∧ w'.heap[eb]? = some (.cells #[.int .i64 c] 27 (0, 0)) ∧ Below w0.heap.size w0 w'
set_option maxHeartbeats 8000000 in
set_option maxRecDepth 100000 in
theorem catch_panicking (fb ab eb : Nat) (a c x y a0 c0 : Int) (v : Value) (older : List PanicEntry) (w0 w : World) (hB : Below w0.heap.size w0 w) (h0 : w0.heap.size ≤ fb) (h1 : w0.heap.size ≤ ab) (h2 : w0.heap.size ≤ eb) (n1 : fb ≠ ab) (n2 : fb ≠ eb) (n3 : ab ≠ eb)
    (hf : w.heap[fb]? = some (.cells #[.int .i64 x, .int .i64 y, v] 32 (0, 0))) (ha : w.heap[ab]? = some (.cells #[.int .i64 a0] 3 (0, 0))) (he : w.heap[eb]? = some (.cells #[.int .i64 c0] 27 (0, 0))) :
    CallsD Tryd.prog 19 #[.pointer (some ⟨fb, 0, none⟩), .pointer (some ⟨ab, 0, none⟩), .pointer (some ⟨eb, 0, none⟩)] (.panicking ({ v := .iface 60 (.agg #[.int .i64 a, .int .i64 c]), recovered := false } :: older)) w fun e u' w' =>
      e = .returned (.tuple #[]) ∧ u' = .panicking ({ v := .iface 60 (.agg #[.int .i64 a, .int .i64 c]), recovered := true } :: older) ∧ CaughtEnd fb ab eb a c w0 w w' := by
  have hw := assert_wrong
  have Hf := Aside0.mk (blk_alloc hf (.cells #[.int .i64 a, .int .i64 c] 60))
  have Ha := Aside0.mk (blk_alloc ha (.cells #[.int .i64 a, .int .i64 c] 60))
  have He := Aside0.mk (blk_alloc he (.cells #[.int .i64 a, .int .i64 c] 60))
  have HB := Aside0.mk (below_alloc hB (.cells #[.int .i64 a, .int .i64 c] 60))
  have Hn := Aside0.mk (show (w.alloc (.cells #[.int .i64 a, .int .i64 c] 60)).heap[w.heap.size]? = some (.cells #[.int .i64 a, .int .i64 c] 60 (0, 0)) by simpa using heap_alloc_new w _)
  have Hx := Aside0.mk (show fb < w.heap.size ∧ ab < w.heap.size ∧ eb < w.heap.size from ⟨blk_lt hf, blk_lt ha, blk_lt he⟩)
  clear hf ha he hB
  refine callsD_of_wpS Tryd.func19 rfl fun c₀ cs hu => ?_
  apply wpS_seq
  apply wpS_region
  simp [wpOpsS, go_sem, recoverD, hu, Tryd.ntmps19, Exit.thenS]
  refine wpS_of_wp ?_
  go_wp2
  change Code.wp _ _ _ { tmps := #[.pointer (some ⟨fb, 0, none⟩), .pointer (some ⟨ab, 0, none⟩), .pointer (some ⟨eb, 0, none⟩), .pointer (some ⟨w.heap.size, 0, none⟩), .iface 60 (.agg #[.int .i64 a, .int .i64 c]), .tuple #[.agg #[.int .i64 a, .int .i64 c], .bool true], .bool true, .agg #[.int .i64 a, .int .i64 c], undef, undef, undef, undef, undef], defers := [] } _
  obtain ⟨W, hW⟩ : ∃ W : World, W = w.alloc (.cells #[.int .i64 a, .int .i64 c] 60) := ⟨_, rfl⟩
  rw [← hW] at Hf Ha He HB Hn ⊢
  have f0 := (blk_cell Hf.out 0).trans rfl
  have f1 := (blk_cell Hf.out 1).trans rfl
  have f2 := (blk_cell Hf.out 2).trans rfl
  have z0 := blk_frozen Hf.out 0
  have z1 := blk_frozen Hf.out 1
  have z2 := blk_frozen Hf.out 2
  have a0_ := (blk_cell Ha.out 0).trans rfl
  have za := blk_frozen Ha.out 0
  have e0_ := (blk_cell He.out 0).trans rfl
  have ze := blk_frozen He.out 0
  have g0 := (blk_cell Hn.out 0).trans rfl
  have g1 := (blk_cell Hn.out 1).trans rfl
  have m1 : ab ≠ fb := n1.symm
  have m2 : eb ≠ fb := n2.symm
  have m3 : eb ≠ ab := n3.symm
  have k1 : w.heap.size ≠ fb := by have := Hx.out; omega
  have k2 : w.heap.size ≠ ab := by have := Hx.out; omega
  have k3 : w.heap.size ≠ eb := by have := Hx.out; omega
  clear hW
  have HC : CaughtEnd fb ab eb a c w0 w ((((((W.setCell ⟨fb, 0, none⟩ (.int .i64 0)).setCell ⟨fb, 1, none⟩ (.int .i64 0)).setCell ⟨fb, 2, none⟩ (.slice none 0 0)).setCell ⟨ab, 0, none⟩ (.int .i64 a)).setCell ⟨eb, 0, none⟩ (.int .i64 c)).drew) := by
    refine ⟨?_, ?_, ?_, ?_⟩
    · exact blk_drew (blk_far (blk_far (by simpa using blk_set (blk_set (blk_set Hf.out 0 (.int .i64 0)) 1 (.int .i64 0)) 2 (.slice none 0 0)) n1 _) n2 _)
    · exact blk_drew (blk_far (by simpa using blk_set (blk_far (blk_far (blk_far Ha.out m1 (.int .i64 0) (p := ⟨fb, 0, none⟩)) m1 (.int .i64 0) (p := ⟨fb, 1, none⟩)) m1 (.slice none 0 0) (p := ⟨fb, 2, none⟩)) 0 (.int .i64 a)) n3 _)
    · exact blk_drew (by simpa using blk_set (blk_far (blk_far (blk_far (blk_far He.out m2 (.int .i64 0) (p := ⟨fb, 0, none⟩)) m2 (.int .i64 0) (p := ⟨fb, 1, none⟩)) m2 (.slice none 0 0) (p := ⟨fb, 2, none⟩)) m3 (.int .i64 a) (p := ⟨ab, 0, none⟩)) 0 (.int .i64 c))
    · exact below_drew1 (below_set (below_set (below_set (below_set (below_set HB.out h0) h0) h0) h1) h2)
  have HC := Aside0.mk HC
  go_region
  refine (show bodyPostS Tryd.prog Tryd.f19 c₀ cs (fun e u' w' => e = .returned (.tuple #[]) ∧ u' = .panicking ({ v := .iface 60 (.agg #[.int .i64 a, .int .i64 c]), recovered := true } :: older) ∧ CaughtEnd fb ab eb a c w0 w w') Exit.normal _ _ _ from ?_)
  simp [bodyPostS, results, Tryd.results19]
  exact HC.out
end Go.Proofs.YtdmnknhlibaaoaaDoor.M
namespace Go.Proofs.YtdmnknhlibaaoaaDoor.M
open Go.RowKit Go.Proofs.YtdmnknhlibaaoaaDoorW.PrintWords Go.Proofs.YtdmnknhlibaaoaaDoorW.PrintLast Go.Proofs.YtdmnknhlibaaoaaDoorW.PrintMore
set_option linter.unusedVariables false
set_option linter.unusedSimpArgs false
def parseL (k : Nat) (s : ByteArray) (n : Int) : Nat → Int → List (List S39) → Option (Except (Int × Int) (List (List S39) × Int))
  | 0, _, _ => none
  | m + 1, p, acc => if (acc.length : Int) < n then (chunkF k s p).bind fun r => match r with
      | .error x => some (.error x)
      | .ok (l, q) => if l.length = 0 then parseL k s n m q acc else if acc.length < 5864062014805 then parseL k s n m q (acc ++ [l]) else none
    else some (.ok (acc, p))
def smf_Parse.f (k : Nat) (s : ByteArray) : Option (Int × Int × List (List S39) × Int × Int) :=
  if (s.size : Int) > 100000 then some (0, 0, [], 0, 160)
  else match headGo s 14 0 with
    | some (a, c) => some (0, 0, [], a, c)
    | none => (parseL k s (bt s 11) k 14 []).bind fun r => match r with
      | .error (a, c) => some (0, 0, [], a, c)
      | .ok (acc, p) => if p < (s.size : Int) then some (0, 0, [], p, 160) else some (bt s 9, orB (bt s 12) (bt s 13), acc, 0, 0)
abbrev begun (s : ByteArray) (w : World) : World := (((w.alloc (.cells #[.int .i64 0, .int .i64 0, .slice none 0 0] 32)).alloc (.cells #[.int .i64 0] 3)).alloc (.cells #[.int .i64 0] 27)).alloc (.cells #[.string s, .int .i64 0] 63)
theorem begun_f (s : ByteArray) (w : World) : (begun s w).heap[w.heap.size]? = some (.cells #[.int .i64 0, .int .i64 0, .slice none 0 0] 32 (0, 0)) := blk_alloc (blk_alloc (blk_alloc (by simpa using heap_alloc_new w _) _) _) _
theorem begun_a (s : ByteArray) (w : World) : (begun s w).heap[w.heap.size + 1]? = some (.cells #[.int .i64 0] 3 (0, 0)) := blk_alloc (blk_alloc (by simpa using heap_alloc_new (w.alloc (.cells #[.int .i64 0, .int .i64 0, .slice none 0 0] 32)) (.cells #[.int .i64 0] 3)) _) _
theorem begun_e (s : ByteArray) (w : World) : (begun s w).heap[w.heap.size + 1 + 1]? = some (.cells #[.int .i64 0] 27 (0, 0)) := blk_alloc (by simpa using heap_alloc_new ((w.alloc (.cells #[.int .i64 0, .int .i64 0, .slice none 0 0] 32)).alloc (.cells #[.int .i64 0] 3)) (.cells #[.int .i64 0] 27)) _
theorem begun_r (s : ByteArray) (w : World) : IsS63 w (begun s w) (w.heap.size + 1 + 1 + 1) s 0 := ⟨by simpa using heap_alloc_new (((w.alloc (.cells #[.int .i64 0, .int .i64 0, .slice none 0 0] 32)).alloc (.cells #[.int .i64 0] 3)).alloc (.cells #[.int .i64 0] 27)) (.cells #[.string s, .int .i64 0] 63), by omega⟩
theorem begun_b (s : ByteArray) (w : World) : Below w.heap.size w (begun s w) := below_alloc (below_alloc (below_alloc (below_alloc (Below.refl _ _) _) _) _) _
set_option maxHeartbeats 8000000 in
set_option maxRecDepth 100000 in
theorem parse_long (s : ByteArray) (w : World) (hs : (s.size : Int) > 100000) :
    Calls Tryd.prog 10 #[.string s] w fun e w' => e = .returned (.tuple #[.agg #[.int .i64 0, .int .i64 0, .slice none 0 0], .int .i64 0, .int .i64 160]) ∧ Below w.heap.size w w' := by
  have hd : decide ((s.size : Int) > 100000) = true := decide_eq_true hs
  go_enter_defers Tryd.func10, Tryd.ntmps10
  go_wp2
  simp [bodyPostD, Leaves, settle, results, Tryd.results10, go_sem]
  exact below_alloc (below_alloc (below_alloc (Below.refl _ _) _) _) _
set_option maxHeartbeats 8000000 in
set_option maxRecDepth 100000 in
theorem parse_head (s : ByteArray) (w : World) (a c : Int) (hs : s.size ≤ 100000) (hh : headGo s 14 0 = some (a, c)) :
    Calls Tryd.prog 10 #[.string s] w fun e w' => e = .returned (.tuple #[.agg #[.int .i64 0, .int .i64 0, .slice none 0 0], .int .i64 a, .int .i64 c]) ∧ Below w.heap.size w w' := by
  have hd : decide ((s.size : Int) > 100000) = false := decide_eq_false (by omega)
  have hmf : ∀ (fn : Fn) (first cap : Array Value) (w : World), (Instr.makeFunc fn first cap).run Tryd.prog w = .ok (.func fn first cap) w := fun _ _ _ _ => rfl
  go_enter_defers Tryd.func10, Tryd.ntmps10
  go_wp2_with fail
  go_at_call 20
  refine (head_calls (w.heap.size + 1 + 1 + 1) w.heap.size s w (begun s w) (begun_r s w) (begun_f s w) (Nat.le_refl _) (begun_b s w) hs).mono ?_
  rintro e w1 ⟨hb, hk, x, y, hf, he⟩
  rw [hh] at he
  have he2 : e = gone a c := he
  have HA := Aside0.mk (hk.blk (begun_a s w) (by omega) (fun z => by have := Option.some.inj z; omega))
  have HE := Aside0.mk (hk.blk (begun_e s w) (by omega) (fun z => by have := Option.some.inj z; omega))
  have HF := Aside0.mk hf
  have HB := Aside0.mk hb
  clear hk hf hb he
  simp only [gone] at he2
  subst he2
  go_wp2_with fail
  refine leaves_cons (f := 19) (args := #[.pointer (some ⟨w.heap.size, 0, none⟩), .pointer (some ⟨w.heap.size + 1, 0, none⟩), .pointer (some ⟨w.heap.size + 1 + 1, 0, none⟩)]) (by simp) (by simp [go_sem]) ?_
  refine (catch_panicking w.heap.size (w.heap.size + 1) (w.heap.size + 1 + 1) a c x y 0 0 _ [] w w1 HB.out (Nat.le_refl _) (by omega) (by omega) (by omega) (by omega) (by omega) HF.out HA.out HE.out).mono ?_
  rintro e u' w'' ⟨rfl, rfl, h1, h2, h3, h4⟩
  have q0 := (blk_cell h1 0).trans rfl
  have q1 := (blk_cell h1 1).trans rfl
  have q2 := (blk_cell h1 2).trans rfl
  have q3 := (blk_cell h2 0).trans rfl
  have q4 := (blk_cell h3 0).trans rfl
  simp [Leaves, settle, results, Tryd.results10, go_sem, q0, q1, q2, q3, q4]
  exact h4
end Go.Proofs.YtdmnknhlibaaoaaDoor.M
namespace Go.Proofs.YtdmnknhlibaaoaaDoor.M
open Go.RowKit Go.Proofs.YtdmnknhlibaaoaaDoorW.PrintWords Go.Proofs.YtdmnknhlibaaoaaDoorW.PrintLast Go.Proofs.YtdmnknhlibaaoaaDoorW.PrintMore
set_option linter.unusedVariables false
set_option linter.unusedSimpArgs false
theorem chunk_le {k : Nat} {s : ByteArray} {p q : Int} {l : List S39} (hp : 0 ≤ p ∧ p ≤ s.size) (h : chunkF k s p = some (.ok (l, q))) : 0 ≤ q ∧ q ≤ s.size := by
  have hn := (numB_range (s.extract (p + 4).toNat (p + 8).toNat)).2.2.2
  unfold chunkF at h
  by_cases c1 : (s.size : Int) - p < 4
  · rw [if_pos c1] at h; cases h
  rw [if_neg c1] at h
  by_cases c2 : (s.size : Int) - (p + 4) < 4
  · rw [if_pos c2] at h; cases h
  rw [if_neg c2] at h
  by_cases c3 : (s.size : Int) - (p + 8) < numB (s.extract (p + 4).toNat (p + 8).toNat) 4
  · rw [if_pos c3] at h; cases h
  rw [if_neg c3] at h
  have key : q = p + 8 + numB (s.extract (p + 4).toNat (p + 8).toNat) 4 := by
    by_cases c4 : (s.extract p.toNat (p + 4).toNat).toList = ([77, 84, 114, 107] : List UInt8)
    · rw [if_pos c4] at h
      obtain ⟨d, _, h⟩ := Option.bind_eq_some_iff.mp h
      by_cases c5 : d.2.2 = 0
      · rw [if_pos c5] at h
        obtain ⟨b, _, h⟩ := Option.bind_eq_some_iff.mp h
        cases b with
        | true => rw [if_pos rfl] at h; injection h with h; injection h with h; exact (Prod.mk.inj h).2.symm
        | false => rw [if_neg (by decide)] at h; cases h
      · rw [if_neg c5] at h; cases h
    · rw [if_neg c4] at h; injection h with h; injection h with h; exact (Prod.mk.inj h).2.symm
  omega
theorem headGo_size {s : ByteArray} : ∀ (n i : Nat), headGo s n i = none → (i : Int) ≤ s.size → ((i + n : Nat) : Int) ≤ s.size
  | 0, i, _, hi => hi
  | n + 1, i, h, hi => by
    rw [headGo] at h
    by_cases c1 : (i : Int) < s.size
    · rw [if_pos c1] at h
      by_cases c2 : okAt s i = true
      · rw [if_pos c2] at h
        have := headGo_size n (i + 1) h (by omega)
        omega
      · rw [if_neg c2] at h; cases h
    · rw [if_neg c1] at h; cases h
def parseEnd (s : ByteArray) : Except (Int × Int) (List (List S39) × Int) → Int × Int × List (List S39) × Int × Int
  | .error (a, c) => (0, 0, [], a, c)
  | .ok (acc, p) => if p < (s.size : Int) then (0, 0, [], p, 160) else (bt s 9, orB (bt s 12) (bt s 13), acc, 0, 0)
theorem parseEnd_more {s : ByteArray} {acc : List (List S39)} {p : Int} (h : p < (s.size : Int)) : parseEnd s (.ok (acc, p)) = (0, 0, [], p, 160) := if_pos h
theorem parseEnd_all {s : ByteArray} {acc : List (List S39)} {p : Int} (h : ¬ p < (s.size : Int)) : parseEnd s (.ok (acc, p)) = (bt s 9, orB (bt s 12) (bt s 13), acc, 0, 0) := if_neg h
def ParsePost (w : World) (r : Int × Int × List (List S39) × Int × Int) (e : Ending) (w' : World) : Prop :=
  ∃ v2_ : Value, e = .returned (.tuple #[.agg #[.int .i64 r.1, .int .i64 r.2.1, v2_], .int .i64 r.2.2.2.1, .int .i64 r.2.2.2.2]) ∧ Kd.S (Kd.slice 39 k39) 33 w' w.heap.size (fun _ => True) v2_ r.2.2.1 ∧ Below w.heap.size w w'
structure Pz (s : ByteArray) (w W : World) (p : Int) (acc : List (List S39)) (v : Value) : Prop where
  st : IsS63 w W (w.heap.size + 1 + 1 + 1) s p
  fl : W.heap[w.heap.size]? = some (.cells #[.int .i64 (bt s 9), .int .i64 (orB (bt s 12) (bt s 13)), v] 32 (0, 0))
  ra : W.heap[w.heap.size + 1]? = some (.cells #[.int .i64 0] 3 (0, 0))
  re : W.heap[w.heap.size + 1 + 1]? = some (.cells #[.int .i64 0] 27 (0, 0))
  ow : Kd.S (Kd.slice 39 k39) 33 W w.heap.size (fun _ => True) v acc
  be : Below w.heap.size w W
  le : 0 ≤ p ∧ p ≤ s.size
set_option maxHeartbeats 8000000 in
set_option maxRecDepth 100000 in
theorem parse_body (k : Nat) (s : ByteArray) (w : World) (r : Except (Int × Int) (List (List S39) × Int)) (hs : s.size ≤ 100000) (hh : headGo s 14 0 = none) (hr : parseL k s (bt s 11) k 14 [] = some r) :
    Calls Tryd.prog 10 #[.string s] w (ParsePost w (parseEnd s r)) := by
  have hd : decide ((s.size : Int) > 100000) = false := decide_eq_false (by omega)
  have hmf : ∀ (fn : Fn) (first cap : Array Value) (w : World), (Instr.makeFunc fn first cap).run Tryd.prog w = .ok (.func fn first cap) w := fun _ _ _ _ => rfl
  have hneq : ∀ (W : World) (a : Option Addr) (n c : Nat), (binOp .neq 33 (.slice a n c) (.slice none 0 0)).run Tryd.prog W = .ok (.bool (!a.isNone)) W := fun W a n c => run_neq_slice_nil W 33 39 a n c Tryd.underlying33
  have HRR := Aside0.mk hr
  clear hr
  go_enter_defers Tryd.func10, Tryd.ntmps10
  go_wp2_with fail
  go_at_call 20
  refine (head_calls (w.heap.size + 1 + 1 + 1) w.heap.size s w (begun s w) (begun_r s w) (begun_f s w) (Nat.le_refl _) (begun_b s w) hs).mono ?_
  rintro e w1 ⟨hb, hk, x, y, hf, he⟩
  rw [hh] at he
  obtain ⟨rfl, hi, rfl, rfl⟩ := he
  have HP := Aside0.mk (⟨hi, hf, hk.blk (begun_a s w) (by omega) (fun z => by have := Option.some.inj z; omega), hk.blk (begun_e s w) (by omega) (fun z => by have := Option.some.inj z; omega), Kd.S_nil _ _ _ _ _, hb, by have := headGo_size 14 0 hh (by omega); omega⟩ : Pz s w w1 14 [] (.slice none 0 0))
  clear hk hf hb hi
  go_wp2
  go_loopg [] k (fun kq w' => ∃ (p : Int) (acc : List (List S39)) (v : Value), Aside0 (parseL k s (bt s 11) kq p acc = some r) ∧ Aside0 (Pz s w w' p acc v))
  case atStart => exact ⟨14, [], .slice none 0 0, HRR, HP⟩
  case round =>
    clear HRR HP
    obtain ⟨p, acc, v, HA, HP⟩ := hrel
    cases gk with
    | zero => exact absurd HA.out (by simp [parseL])
    | succ m =>
      obtain ⟨A, cap, rfl⟩ := Kd.S_slice HP.out.ow
      have H := HA.out
      rw [parseL] at H
      have H := Aside0.mk H
      clear HA
      have hc0 := (blk_cell HP.out.fl 0).trans rfl
      have hc1 := (blk_cell HP.out.fl 1).trans rfl
      have hc2 := (blk_cell HP.out.fl 2).trans rfl
      by_cases c1 : (acc.length : Int) < bt s 11
      · have hK := H.out
        rw [if_pos c1] at hK
        have c1b : decide ((acc.length : Int) < bt s 11) = true := decide_eq_true c1
        clear c1
        obtain ⟨r1, hr1, hK⟩ := Option.bind_eq_some_iff.mp hK
        have HC := Aside0.mk hr1
        have HK := Aside0.mk hK
        clear hr1 hK H
        go_wp2_with fail
        go_at_call 21
        refine (chunk_calls k (w.heap.size + 1 + 1 + 1) s p r1 w _ HP.out.st HP.out.be HP.out.le hs HC.out).mono ?_
        rintro e w2 ⟨hb, hk, hm⟩
        have hlt := HP.out.st.lt
        have HF := Aside0.mk (hk.blk HP.out.fl (by omega) (by simp))
        have HA := Aside0.mk (hk.blk HP.out.ra (by omega) (by simp))
        have HE := Aside0.mk (hk.blk HP.out.re (by omega) (by simp))
        have HS0 := Aside0.mk (Kd.S_keep (Kd.S_types (Kd.S_bound HP.out.ow) HP.out.st.1 (by decide)) hk (fun _ h_ => h_.2))
        have HB := Aside0.mk hb
        clear hb hk hc0 hc1 hc2
        cases r1 with
        | error ac =>
          obtain ⟨a, c⟩ := ac
          have he : e = gone a c := hm
          have hr : r = .error (a, c) := (Option.some.inj HK.out).symm
          subst hr
          clear hm HK HC HS0 HP
          simp only [gone] at he
          subst he
          go_wp2_with fail
          refine leaves_cons (f := 19) (args := #[.pointer (some ⟨w.heap.size, 0, none⟩), .pointer (some ⟨w.heap.size + 1, 0, none⟩), .pointer (some ⟨w.heap.size + 1 + 1, 0, none⟩)]) (by simp) (by simp [go_sem]) ?_
          refine (catch_panicking w.heap.size (w.heap.size + 1) (w.heap.size + 1 + 1) a c _ _ 0 0 _ [] w w2 HB.out (Nat.le_refl _) (by omega) (by omega) (by omega) (by omega) (by omega) HF.out HA.out HE.out).mono ?_
          rintro e u' w'' ⟨rfl, rfl, h1, h2, h3, h4⟩
          have q0 := (blk_cell h1 0).trans rfl
          have q1 := (blk_cell h1 1).trans rfl
          have q2 := (blk_cell h1 2).trans rfl
          have q3 := (blk_cell h2 0).trans rfl
          have q4 := (blk_cell h3 0).trans rfl
          simp [Leaves, settle, results, Tryd.results10, go_sem, q0, q1, q2, q3, q4]
          exact ⟨_, rfl, Kd.S_nil _ _ _ _ _, h4⟩
        | ok lq =>
          obtain ⟨l, q⟩ := lq
          obtain ⟨vl, rfl, hnil, hR, hi⟩ := hm
          have hq := chunk_le HP.out.le HC.out
          have HQ := Aside0.mk hq
          have hK := HK.out
          replace hK : (if l.length = 0 then parseL k s (bt s 11) m q acc else if acc.length < 5864062014805 then parseL k s (bt s 11) m q (acc ++ [l]) else none) = some r := hK
          have HI := Aside0.mk hi
          clear hi hq HK HC
          by_cases cl : l.length = 0
          · rw [if_pos cl] at hK
            have hv := hnil (List.eq_nil_of_length_eq_zero cl)
            subst hv
            have HN := Aside0.mk hK
            have HP2 := Aside0.mk (⟨HI.out, HF.out, HA.out, HE.out, Kd.S_mono HS0.out (fun _ _ => trivial), HB.out, HQ.out⟩ : Pz s w w2 q acc (.slice A acc.length cap))
            clear hK hR hnil cl HP HS0
            go_wp2
            go_roundg m
            case measure => omega
            case rel => exact ⟨q, acc, _, HN, HP2⟩
          · rw [if_neg cl] at hK
            by_cases c2 : acc.length < 5864062014805
            · rw [if_pos c2] at hK
              have HN := Aside0.mk hK
              have HL := Aside0.mk c2
              clear hK c2 hnil
              have hbase := Kd.R_base hR
              obtain ⟨ad, cl2, rfl⟩ := Kd.R_slice1 hR (by omega)
              have HS := Aside0.mk (Kd.S_mono (ok' := fun k_ => True ∧ some k_ ≠ (Value.slice (some ad) l.length cl2).ownBlock) HS0.out (fun k_ hk_ => ⟨trivial, fun e_ => by have h1 := hbase k_ e_.symm; have h2 := hk_.1.2.2.1; omega⟩))
              have HR := Aside0.mk (Kd.R_lower hR HP.out.be.size)
              clear hR hbase HS0 HP cl
              have hz0 := (blk_cell HF.out 2).trans rfl
              go_wp2_with (first | ((with_reducible refine gate_builtin (b := .append) (xs := #[.tmp 28, .tmp 30]) rfl ?_); at_builtin; refine Kd.S_append (Kd.slice 39 k39) (w0 := w) w.heap.size rfl (.tmp 28) (.tmp 30) 30 33 (.slice none 0 0) 24 rfl Tryd.underlying30 info33 rfl (by decide) (by omega) (.slice A acc.length cap) acc l [.slice (some ad) l.length cl2] (fun _ => True) (fun k_ => some k_ = (.slice (some ad) l.length cl2 : Value).ownBlock) rfl rfl ?aP (fun k_ hk_ => ((Kd.R_mono (ok' := fun k_ => ((fun _ => True)) k_ ∧ some k_ ≠ (.slice A acc.length cap : Value).ownBlock) (Kd.R_apart' (HR.out) (Kd.S_typed HS.out) (by decide)) (fun k_ hk => ⟨trivial, hk.2⟩))).1 k_ hk_.symm) ?aF ?aO ?aB ?aS ?aL ?_; (case aP => exact Kd.M_row (Kd.R_mono (Kd.R_tight rfl (Kd.R_mono (ok' := fun k_ => ((fun _ => True)) k_ ∧ some k_ ≠ (.slice A acc.length cap : Value).ownBlock) (Kd.R_apart' (HR.out) (Kd.S_typed HS.out) (by decide)) (fun k_ hk => ⟨trivial, hk.2⟩))) (fun _ h_ => h_))); (case aB => exact HB.out); (case aF => exact (fun _ _ => trivial)); (case aO => exact Kd.S_mono HS.out (fun k_ hk => ⟨trivial, fun e_ => hk.2 e_⟩)); (case aS => exact HB.out.size); (case aL => have := HL.out; omega); intro v3 w3 ho hb hg hat; obtain ⟨A3, c3, rfl⟩ := Kd.S_slice ho; have HO := Aside0.mk ho; have HF3 := Aside0.mk (blk_grown HF.out hg (Kd.S_ne HS.out HF.out (by decide))); have HA3 := Aside0.mk (blk_grown HA.out hg (Kd.S_ne HS.out HA.out (by decide))); have HE3 := Aside0.mk (blk_grown HE.out hg (Kd.S_ne HS.out HE.out (by decide))); have HI3 := Aside0.mk (HI.out.grown hg (Kd.S_ne HS.out HI.out.1 (by decide))); have HB3 := Aside0.mk hb; have hz2 := (blk_cell HF3.out 2).trans rfl; have hzf := blk_frozen HF3.out 2; clear ho hb hg hat HS HR))
              have HP4 := Aside0.mk (⟨HI3.out.far (by show w.heap.size + 1 + 1 + 1 ≠ w.heap.size; omega) _, by simpa using blk_set HF3.out 2 (.slice A3 (acc ++ [l]).length c3), blk_far HA3.out qqJ _, blk_far HE3.out qqH _, Kd.S_set HO.out HF3.out (by decide) 2 _, below_set HB3.out (Nat.le_refl _), HQ.out⟩ : Pz s w (w3.setCell ⟨w.heap.size, 2, none⟩ (.slice A3 (acc ++ [l]).length c3)) q (acc ++ [l]) (.slice A3 (acc ++ [l]).length c3))
              go_roundg m
              case measure => omega
              case rel => exact ⟨q, acc ++ [l], _, HN, by have h9 := HP4; simp only [List.length_append, List.length_singleton] at h9; exact h9⟩
            · rw [if_neg c2] at hK; cases hK
      · have hK := H.out
        rw [if_neg c1] at hK
        have c1b : decide ((acc.length : Int) < bt s 11) = false := decide_eq_false c1
        have hr : r = .ok (acc, p) := (Option.some.inj hK).symm
        subst hr
        clear c1 hK H
        have hp1 := cellS63_1 HP.out.st.1
        by_cases c3 : p < (s.size : Int)
        · have c3b : decide (p < (s.size : Int)) = true := decide_eq_true c3
          have C3 := Aside0.mk c3
          clear c3
          go_wp2_with (go_at_call 22; refine (fail_calls _ _ _).mono ?_; rintro e w' ⟨he, rfl⟩; simp only [gone] at he; subst he)
          refine leaves_cons (f := 19) (args := #[.pointer (some ⟨w.heap.size, 0, none⟩), .pointer (some ⟨w.heap.size + 1, 0, none⟩), .pointer (some ⟨w.heap.size + 1 + 1, 0, none⟩)]) (by simp) (by simp [go_sem]) ?_
          refine (catch_panicking w.heap.size (w.heap.size + 1) (w.heap.size + 1 + 1) p 160 _ _ 0 0 _ [] w _ HP.out.be (Nat.le_refl _) (by omega) (by omega) (by omega) (by omega) (by omega) HP.out.fl HP.out.ra HP.out.re).mono ?_
          rintro e u' w'' ⟨rfl, rfl, h1, h2, h3, h4⟩
          have q0 := (blk_cell h1 0).trans rfl
          have q1 := (blk_cell h1 1).trans rfl
          have q2 := (blk_cell h1 2).trans rfl
          have q3 := (blk_cell h2 0).trans rfl
          have q4 := (blk_cell h3 0).trans rfl
          simp [Leaves, settle, results, Tryd.results10, go_sem, q0, q1, q2, q3, q4]
          rw [parseEnd_more C3.out]
          exact ⟨_, rfl, Kd.S_nil _ _ _ _ _, h4⟩
        · have c3b : decide (p < (s.size : Int)) = false := decide_eq_false c3
          have C3 := Aside0.mk (show ¬ p < (s.size : Int) from c3)
          clear c3
          have hf0 := blk_frozen HP.out.fl 0
          have hf1 := blk_frozen HP.out.fl 1
          have hf2 := blk_frozen HP.out.fl 2
          have ha0 := (blk_cell HP.out.ra 0).trans rfl
          have haf := blk_frozen HP.out.ra 0
          have he0 := (blk_cell HP.out.re 0).trans rfl
          have hef := blk_frozen HP.out.re 0
          have g1 : (wr.setCell ⟨w.heap.size, 0, none⟩ (.int .i64 (bt s 9))).heap[w.heap.size]? = some (.cells #[.int .i64 (bt s 9), .int .i64 (orB (bt s 12) (bt s 13)), .slice A acc.length cap] 32 (0, 0)) := by simpa using blk_set HP.out.fl 0 (.int .i64 (bt s 9))
          have o1 := Kd.S_set HP.out.ow HP.out.fl (by decide) 0 (.int .i64 (bt s 9))
          have a1 := blk_far HP.out.ra (p := ⟨w.heap.size, 0, none⟩) qqJ (.int .i64 (bt s 9))
          have e1 := blk_far HP.out.re (p := ⟨w.heap.size, 0, none⟩) qqH (.int .i64 (bt s 9))
          have g2 : ((wr.setCell ⟨w.heap.size, 0, none⟩ (.int .i64 (bt s 9))).setCell ⟨w.heap.size, 1, none⟩ (.int .i64 (orB (bt s 12) (bt s 13)))).heap[w.heap.size]? = some (.cells #[.int .i64 (bt s 9), .int .i64 (orB (bt s 12) (bt s 13)), .slice A acc.length cap] 32 (0, 0)) := by simpa using blk_set g1 1 (.int .i64 (orB (bt s 12) (bt s 13)))
          have o2 := Kd.S_set o1 g1 (by decide) 1 (.int .i64 (orB (bt s 12) (bt s 13)))
          have a2 := blk_far a1 (p := ⟨w.heap.size, 1, none⟩) qqJ (.int .i64 (orB (bt s 12) (bt s 13)))
          have e2 := blk_far e1 (p := ⟨w.heap.size, 1, none⟩) qqH (.int .i64 (orB (bt s 12) (bt s 13)))
          have g3 : (((wr.setCell ⟨w.heap.size, 0, none⟩ (.int .i64 (bt s 9))).setCell ⟨w.heap.size, 1, none⟩ (.int .i64 (orB (bt s 12) (bt s 13)))).setCell ⟨w.heap.size, 2, none⟩ (.slice A acc.length cap)).heap[w.heap.size]? = some (.cells #[.int .i64 (bt s 9), .int .i64 (orB (bt s 12) (bt s 13)), .slice A acc.length cap] 32 (0, 0)) := by simpa using blk_set g2 2 (.slice A acc.length cap)
          have o3 := Kd.S_set o2 g2 (by decide) 2 (.slice A acc.length cap)
          have a3 := blk_far a2 (p := ⟨w.heap.size, 2, none⟩) qqJ (.slice A acc.length cap)
          have e3 := blk_far e2 (p := ⟨w.heap.size, 2, none⟩) qqH (.slice A acc.length cap)
          have g4 := blk_far g3 (p := ⟨w.heap.size + 1, 0, none⟩) (by show w.heap.size ≠ w.heap.size + 1; omega) (.int .i64 0)
          have o4 := Kd.S_set o3 a3 (by decide) 0 (.int .i64 0)
          have a4 := blk_set a3 0 (.int .i64 0)
          have e4 := blk_far e3 (p := ⟨w.heap.size + 1, 0, none⟩) (by show w.heap.size + 1 + 1 ≠ w.heap.size + 1; omega) (.int .i64 0)
          have g5 := blk_far g4 (p := ⟨w.heap.size + 1 + 1, 0, none⟩) (by show w.heap.size ≠ w.heap.size + 1 + 1; omega) (.int .i64 0)
          have o5 := Kd.S_set o4 e4 (by decide) 0 (.int .i64 0)
          have a5 := blk_far a4 (p := ⟨w.heap.size + 1 + 1, 0, none⟩) (by show w.heap.size + 1 ≠ w.heap.size + 1 + 1; omega) (.int .i64 0)
          have e5 := blk_set e4 0 (.int .i64 0)
          have G5 := Aside0.mk g5
          have O5 := Aside0.mk o5
          have A5 := Aside0.mk a5
          have E5 := Aside0.mk e5
          have B5 := Aside0.mk (below_set (j := 0) (v := .int .i64 0) (below_set (j := 0) (v := .int .i64 0) (below_set (j := 2) (v := .slice A acc.length cap) (below_set (j := 1) (v := .int .i64 (orB (bt s 12) (bt s 13))) (below_set (j := 0) (v := .int .i64 (bt s 9)) HP.out.be (Nat.le_refl _)) (Nat.le_refl _)) (Nat.le_refl _)) (show w.heap.size ≤ w.heap.size + 1 by omega)) (show w.heap.size ≤ w.heap.size + 1 + 1 by omega))
          clear g1 g2 g3 g4 g5 o1 o2 o3 o4 o5 a1 a2 a3 a4 a5 e1 e2 e3 e4 e5
          go_wp2
          refine leaves_cons (f := 19) (args := #[.pointer (some ⟨w.heap.size, 0, none⟩), .pointer (some ⟨w.heap.size + 1, 0, none⟩), .pointer (some ⟨w.heap.size + 1 + 1, 0, none⟩)]) (by simp) (by simp [go_sem]) ?_
          refine (catch_idle _ _ _ _).mono ?_
          rintro e u' w'' ⟨rfl, rfl, rfl⟩
          have q0 := (blk_cell G5.out 0).trans rfl
          have q1 := (blk_cell G5.out 1).trans rfl
          have q2 := (blk_cell G5.out 2).trans rfl
          have q3 := (blk_cell A5.out 0).trans rfl
          have q4 := (blk_cell E5.out 0).trans rfl
          simp [Leaves, settle, results, Tryd.results10, go_sem, q0, q1, q2, q3, q4]
          rw [parseEnd_all (show ¬ p < (s.size : Int) by have := C3.out; omega)]
          exact ⟨_, rfl, O5.out, B5.out⟩
end Go.Proofs.YtdmnknhlibaaoaaDoor.M
namespace Go.Proofs.YtdmnknhlibaaoaaDoor.M
open Go.RowKit Go.Proofs.YtdmnknhlibaaoaaDoorW.PrintWords Go.Proofs.YtdmnknhlibaaoaaDoorW.PrintLast Go.Proofs.YtdmnknhlibaaoaaDoorW.PrintMore
set_option linter.unusedVariables false
set_option linter.unusedSimpArgs false
theorem chunkF_mono (k : Nat) (s : ByteArray) (p : Int) : LeO (chunkF k s p) (chunkF (k + 1) s p) := by
  unfold chunkF
  refine LeO.ite (LeO.refl _) (LeO.ite (LeO.refl _) (LeO.ite (LeO.refl _) (LeO.ite (LeO.bind (wire_Decode.mono _ _) (fun d => LeO.ite (LeO.bind (smf_ends.mono _ _) (fun _ => LeO.refl _)) (LeO.refl _))) (LeO.refl _))))
theorem parseL_mono (k : Nat) (s : ByteArray) (n : Int) : ∀ (m : Nat) (p : Int) (acc : List (List S39)), LeO (parseL k s n m p acc) (parseL (k + 1) s n (m + 1) p acc)
  | 0, p, acc => LeO.none _
  | m + 1, p, acc => by
    rw [parseL, parseL]
    refine LeO.ite (LeO.bind (chunkF_mono k s p) (fun r => ?_)) (LeO.refl _)
    cases r with
    | error x => exact LeO.refl _
    | ok lq => exact LeO.ite (parseL_mono k s n m _ _) (LeO.ite (parseL_mono k s n m _ _) (LeO.refl _))
theorem smf_Parse.mono : ∀ a0 k, LeO (smf_Parse.f k a0) (smf_Parse.f (k + 1) a0) := by
  intro s k
  unfold smf_Parse.f
  refine LeO.ite (LeO.refl _) ?_
  cases headGo s 14 0 with
  | some x => exact LeO.refl _
  | none => exact LeO.bind (parseL_mono k s _ k _ _) (fun _ => LeO.refl _)
theorem smf_Parse.calls (k : Nat) (a0 : ByteArray) (r1 : Int) (r2 : Int) (r3 : List (List (S39))) (r4 : Int) (r5 : Int) (w : World) (h : smf_Parse.f k a0 = some (r1, r2, r3, r4, r5)) :
    Calls Tryd.prog 10 #[.string a0] w fun e w' => ∃ v2_ : Value, e = .returned (.tuple #[.agg #[.int .i64 r1, .int .i64 r2, v2_], .int .i64 r4, .int .i64 r5]) ∧ Kd.S (Kd.slice 39 k39) 33 w' w.heap.size (fun _ => True) v2_ r3 ∧ Below w.heap.size w w' := by
  unfold smf_Parse.f at h
  by_cases c1 : (a0.size : Int) > 100000
  · rw [if_pos c1] at h
    injection h with h
    simp only [Prod.mk.injEq] at h
    obtain ⟨rfl, rfl, rfl, rfl, rfl⟩ := h
    refine (parse_long a0 w c1).mono ?_
    rintro e w' ⟨rfl, hb⟩
    exact ⟨_, rfl, Kd.S_nil _ _ _ _ _, hb⟩
  · rw [if_neg c1] at h
    have hs : a0.size ≤ 100000 := by omega
    cases hh : headGo a0 14 0 with
    | some x =>
      obtain ⟨a, c⟩ := x
      rw [hh] at h
      injection h with h
      simp only [Prod.mk.injEq] at h
      obtain ⟨rfl, rfl, rfl, rfl, rfl⟩ := h
      refine (parse_head a0 w a c hs hh).mono ?_
      rintro e w' ⟨rfl, hb⟩
      exact ⟨_, rfl, Kd.S_nil _ _ _ _ _, hb⟩
    | none =>
      rw [hh] at h
      obtain ⟨r, hr, h⟩ := Option.bind_eq_some_iff.mp h
      have he : parseEnd a0 r = (r1, r2, r3, r4, r5) := by
        cases r with
        | error x => exact Option.some.inj h
        | ok x =>
          obtain ⟨acc, p⟩ := x
          by_cases c2 : p < (a0.size : Int)
          · rw [parseEnd_more c2]
            have h2 : (if p < (a0.size : Int) then some ((0 : Int), (0 : Int), ([] : List (List S39)), p, (160 : Int)) else some (bt a0 9, orB (bt a0 12) (bt a0 13), acc, 0, 0)) = some (r1, r2, r3, r4, r5) := h
            rw [if_pos c2] at h2
            exact Option.some.inj h2
          · rw [parseEnd_all c2]
            have h2 : (if p < (a0.size : Int) then some ((0 : Int), (0 : Int), ([] : List (List S39)), p, (160 : Int)) else some (bt a0 9, orB (bt a0 12) (bt a0 13), acc, 0, 0)) = some (r1, r2, r3, r4, r5) := h
            rw [if_neg c2] at h2
            exact Option.some.inj h2
      refine (parse_body k a0 w r hs hh hr).mono ?_
      rw [he]
      intro e w' hp
      exact hp
end Go.Proofs.YtdmnknhlibaaoaaDoor.M
namespace Go.Proofs.YtdmnknhlibaaoaaDoor.M
open Go.RowKit Go.Proofs.YtdmnknhlibaaoaaDoorW.PrintWords Go.Proofs.YtdmnknhlibaaoaaDoorW.PrintLast Go.Proofs.YtdmnknhlibaaoaaDoorW.PrintMore
attribute [local go_sem] max2_int min2_int max_two min_two max_three min_three max_four min_four
set_option linter.unusedVariables false
set_option linter.unusedSimpArgs false
end Go.Proofs.YtdmnknhlibaaoaaDoor.M
