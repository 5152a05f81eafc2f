/- What the statement SmfHead alone needs: its printed function, and its pure part (part 1). -/
import Derived.Test.YtdmnknhlibaaoaaCW
import Derived.Test.YtdmnknhlibaaoaaC1
import Derived.Test.YtdmnknhlibaaoaaC2
import Derived.Test.YtdmnknhlibaaoaaC4
import Derived.Test.YtdmnknhlibaaoaaC3
namespace Go.Proofs.Ytdmnknhlibaaoaa.M
open Go.RowKit Go.Proofs.YtdmnknhlibaaoaaW.PrintWords Go.Proofs.YtdmnknhlibaaoaaW.PrintLast Go.Proofs.YtdmnknhlibaaoaaW.PrintMore
attribute [local go_sem] max2_int min2_int max_two min_two max_three min_three max_four min_four
set_option linter.unusedVariables false
set_option linter.unusedSimpArgs false
def partitalaw16_SmfHead.j0 : Nat → Int → Bool → ByteArray → Int → Int → Int → List (List (S28)) → Option (Bool)
  | 0, _, _, _, _, _, _, _ => none
  | k + 1, x2, x7, x9, x11, x109000, x109001, x109002 => if 0 ≤ x11 then (if x11 ≤ (x9.size : Int) then ((some (([x2] : List Int) : List Int)).bind fun y111 => (if (x9.extract 0 (x11 : Int).toNat).size + (strOfNums y111).size ≤ 9223372036854775807 then (if 0 ≤ (wrap64 (x11 + 1)) then (if (wrap64 (x11 + 1)) ≤ (x9.size : Int) then (if ((x9.extract 0 (x11 : Int).toNat) ++ (strOfNums y111)).size + (x9.extract ((wrap64 (x11 + 1)) : Int).toNat x9.size).size ≤ 9223372036854775807 then ((smf_Parse.f k (((x9.extract 0 (x11 : Int).toNat) ++ (strOfNums y111)) ++ (x9.extract ((wrap64 (x11 + 1)) : Int).toNat x9.size))).bind fun bt114 => (if x11 < (x9.size : Int) then (if x2 = (bt x9 x11) then (if x7 = true then (if bt114.2.2.2.2 = 0 then ((smf_Same.f k x109000 x109001 x109002 bt114.1 bt114.2.1 bt114.2.2.1).bind fun t122 => (some t122)) else (none)) else (none)) else (if 0 ≤ 9 then (if 9 ≤ (x9.size : Int) then ((some (([(2 + (Int.tmod x2 254)) % 256] : List Int) : List Int)).bind fun y123 => (if (x9.extract 0 9).size + (strOfNums y123).size ≤ 9223372036854775807 then (if 10 ≤ (x9.size : Int) then (if ((x9.extract 0 9) ++ (strOfNums y123)).size + (x9.extract 10 x9.size).size ≤ 9223372036854775807 then ((smf_Parse.f k (((x9.extract 0 9) ++ (strOfNums y123)) ++ (x9.extract 10 x9.size))).bind fun bt126 => (if 0 ≤ 11 then (if 11 ≤ (x9.size : Int) then (if (x9.extract 0 11).size + 1 ≤ 9223372036854775807 then (if 12 ≤ (x9.size : Int) then (if ((x9.extract 0 11) ++ (⟨#[0]⟩ : ByteArray)).size + (x9.extract 12 x9.size).size ≤ 9223372036854775807 then ((smf_Parse.f k (((x9.extract 0 11) ++ (⟨#[0]⟩ : ByteArray)) ++ (x9.extract 12 x9.size))).bind fun bt134 => ((some (([(17 + (Int.tmod x2 239)) % 256] : List Int) : List Int)).bind fun y142 => (if (x9.extract 0 11).size + (strOfNums y142).size ≤ 9223372036854775807 then (if ((x9.extract 0 11) ++ (strOfNums y142)).size + (x9.extract 12 x9.size).size ≤ 9223372036854775807 then ((smf_Parse.f k (((x9.extract 0 11) ++ (strOfNums y142)) ++ (x9.extract 12 x9.size))).bind fun bt145 => (if 0 ≤ 12 then ((some (([(128 + (Int.tmod x2 128)) % 256] : List Int) : List Int)).bind fun y153 => (if (x9.extract 0 12).size + (strOfNums y153).size ≤ 9223372036854775807 then (if 13 ≤ (x9.size : Int) then (if ((x9.extract 0 12) ++ (strOfNums y153)).size + (x9.extract 13 x9.size).size ≤ 9223372036854775807 then ((smf_Parse.f k (((x9.extract 0 12) ++ (strOfNums y153)) ++ (x9.extract 13 x9.size))).bind fun bt156 => (if (x9.extract 0 12).size + 2 ≤ 9223372036854775807 then (if 14 ≤ (x9.size : Int) then (if ((x9.extract 0 12) ++ (⟨#[0, 0]⟩ : ByteArray)).size + (x9.extract 14 x9.size).size ≤ 9223372036854775807 then ((smf_Parse.f k (((x9.extract 0 12) ++ (⟨#[0, 0]⟩ : ByteArray)) ++ (x9.extract 14 x9.size))).bind fun bt164 => (if x7 = true then (if bt114.2.2.2.2 = 160 then (if bt114.2.2.2.1 = x11 then (if bt126.2.2.2.2 = 160 then (if bt126.2.2.2.1 = 9 then (if bt134.2.2.2.2 = 160 then (if bt134.2.2.2.1 = 11 then (if bt145.2.2.2.2 = 160 then (if bt145.2.2.2.1 = 11 then (if bt156.2.2.2.2 = 160 then (if bt156.2.2.2.1 = 12 then (if bt164.2.2.2.2 = 160 then (some (bt164.2.2.2.1 == 13)) else (none)) else (none)) else (none)) else (none)) else (none)) else (none)) else (none)) else (none)) else (none)) else (none)) else (none)) else (none))) else (none)) else (none)) else (none))) else (none)) else (none)) else (none))) else (none))) else (none)) else (none)))) else (none)) else (none)) else (none)) else (none)) else (none))) else (none)) else (none)) else (none))) else (none)) else (none))) else (none))) else (none)) else (none)) else (none)) else (none))) else (none)) else (none)
def partitalaw16_SmfHead.f (k : Nat) (a0_0 : Int) (a0_1 : Int) (l0_2 : List (List (S28))) (a1 : Int) (a2 : Int) : Option (Bool) := (partitalaw16_examples.f k).bind fun t102 => (if t102 = true then ((partitalaw16_File.f k a0_0 a0_1 l0_2).bind fun bt103 => ((smf_Print.f k bt103.1 bt103.2.1 bt103.2.2).bind fun bt109 => (if bt109.2 = 0 then (if (bt109.1.size : Int) < 14 then (some false) else (if (wrap64 (Int.tmod a1 9)) = 8 then (partitalaw16_SmfHead.j0 k a2 t102 bt109.1 10 bt103.1 bt103.2.1 bt103.2.2) else (partitalaw16_SmfHead.j0 k a2 t102 bt109.1 (wrap64 (Int.tmod a1 9)) bt103.1 bt103.2.1 bt103.2.2))) else (none)))) else (some false))
theorem partitalaw16_SmfHead.mono_l : ∀ k, (∀ y0 y1 y2 y3 y4 y5 y6, LeO (partitalaw16_SmfHead.j0 k y0 y1 y2 y3 y4 y5 y6) (partitalaw16_SmfHead.j0 (k + 1) y0 y1 y2 y3 y4 y5 y6))
  | 0 => fun _ _ _ _ _ _ _ r h => by simp [partitalaw16_SmfHead.j0] at h
  | k + 1 => by
    have ih0 := partitalaw16_SmfHead.mono_l k
    · intro y0 y1 y2 y3 y4 y5 y6
      unfold partitalaw16_SmfHead.j0
      repeat' first
      | (with_reducible exact ih0 _ _ _ _ _ _ _)
      | (with_reducible exact partitalaw16_File.mono _ _ _ _)
      | (with_reducible exact partitalaw16_examples.mono _)
      | (with_reducible exact smf_Parse.mono _ _)
      | (with_reducible exact smf_Print.mono _ _ _ _)
      | (with_reducible exact smf_Same.mono _ _ _ _ _ _ _)
      | (with_reducible exact LeO.refl _)
      | (with_reducible exact LeO.none _)
      | (with_reducible refine LeO.ite ?_ ?_)
      | (with_reducible refine LeO.bind ?_ (fun _ => ?_))
      | exact ih0 _ _ _ _ _ _ _
      | exact partitalaw16_File.mono _ _ _ _
      | exact partitalaw16_examples.mono _
      | exact smf_Parse.mono _ _
      | exact smf_Print.mono _ _ _ _
      | exact smf_Same.mono _ _ _ _ _ _ _
      | exact LeO.none _
      | refine LeO.ite ?_ ?_
      | refine LeO.bind ?_ (fun _ => ?_)
theorem partitalaw16_SmfHead.mono : ∀ a0 a1 a2 a3 a4 k, LeO (partitalaw16_SmfHead.f k a0 a1 a2 a3 a4) (partitalaw16_SmfHead.f (k + 1) a0 a1 a2 a3 a4) := by
  intro a0 a1 a2 a3 a4 k
  have ih0 := partitalaw16_SmfHead.mono_l k
  unfold partitalaw16_SmfHead.f
  repeat' first
      | (with_reducible exact ih0 _ _ _ _ _ _ _)
      | (with_reducible exact partitalaw16_File.mono _ _ _ _)
      | (with_reducible exact partitalaw16_examples.mono _)
      | (with_reducible exact smf_Parse.mono _ _)
      | (with_reducible exact smf_Print.mono _ _ _ _)
      | (with_reducible exact smf_Same.mono _ _ _ _ _ _ _)
      | (with_reducible exact LeO.refl _)
      | (with_reducible exact LeO.none _)
      | (with_reducible refine LeO.ite ?_ ?_)
      | (with_reducible refine LeO.bind ?_ (fun _ => ?_))
      | exact ih0 _ _ _ _ _ _ _
      | exact partitalaw16_File.mono _ _ _ _
      | exact partitalaw16_examples.mono _
      | exact smf_Parse.mono _ _
      | exact smf_Print.mono _ _ _ _
      | exact smf_Same.mono _ _ _ _ _ _ _
      | exact LeO.none _
      | refine LeO.ite ?_ ?_
      | refine LeO.bind ?_ (fun _ => ?_)
def partitalaw16_SmfHead.T11 : Bool × List (List Nat × List Nat) := (true, [([], []), ([], []), ([0, 1], [0, 1]), ([], []), ([3], [3]), ([4], [4]), ([2, 5], [2, 5]), ([], []), ([], []), ([8], [8]), ([7, 9], [7, 9]), ([6, 10], [6, 10]), ([11], [11]), ([12], [12]), ([13], [13]), ([13], [13]), ([13], [13]), ([], []), ([17, 14, 12, 0, 1, 2, 3, 4, 5, 6, 7, 8, 9, 10, 11, 12, 13, 14, 17], [14, 17]), ([15, 18, 0, 1, 2, 3, 4, 5, 6, 7, 8, 9, 10, 11, 12, 13, 14, 15, 17, 18], [15]), ([16, 19, 0, 1, 2, 3, 4, 5, 6, 7, 8, 9, 10, 11, 12, 13, 14, 15, 16, 17, 18, 19], [16])])
def partitalaw16_SmfHead.B11 : List Nat := [0, 0, 3, 0, 8, 24, 63, 0, 0, 256, 896, 2047, 4095, 8191, 16383, 16383, 16383, 0, 163839, 458751, 1048575]
theorem partitalaw16_SmfHead.tab11 : rtab .any (opsOf Try.f8 11) = partitalaw16_SmfHead.T11 := by kernel_rfl
theorem partitalaw16_SmfHead.bits11 : waitsOk partitalaw16_SmfHead.T11.2 partitalaw16_SmfHead.B11 = true := by kernel_rfl
def partitalaw16_SmfHead.T14 : Bool × List (List Nat × List Nat) := (true, [([], []), ([0], [0]), ([], []), ([2], [2]), ([3], [3]), ([4], [4]), ([5], [5]), ([1, 6], [1, 6]), ([], []), ([8], [8]), ([7, 9], [7, 9]), ([10], [10]), ([11], [11]), ([12], [12]), ([12], [12]), ([12], [12]), ([], []), ([16, 13, 11, 0, 1, 2, 3, 4, 5, 6, 7, 8, 9, 10, 11, 12, 13, 16], [13, 16]), ([14, 17, 0, 1, 2, 3, 4, 5, 6, 7, 8, 9, 10, 11, 12, 13, 14, 16, 17], [14]), ([15, 18, 0, 1, 2, 3, 4, 5, 6, 7, 8, 9, 10, 11, 12, 13, 14, 15, 16, 17, 18], [15])])
def partitalaw16_SmfHead.B14 : List Nat := [0, 1, 0, 4, 12, 28, 60, 127, 0, 256, 1023, 2047, 4095, 8191, 8191, 8191, 0, 81919, 229375, 524287]
theorem partitalaw16_SmfHead.tab14 : rtab .any (opsOf Try.f8 14) = partitalaw16_SmfHead.T14 := by kernel_rfl
theorem partitalaw16_SmfHead.bits14 : waitsOk partitalaw16_SmfHead.T14.2 partitalaw16_SmfHead.B14 = true := by kernel_rfl
def partitalaw16_SmfHead.T15 : Bool × List (List Nat × List Nat) := (true, [([], []), ([0], [0]), ([1], [1]), ([], []), ([3], [3]), ([2, 4], [2, 4]), ([5], [5]), ([6], [6]), ([7], [7]), ([7], [7]), ([7], [7]), ([], []), ([11, 8, 6, 0, 1, 2, 3, 4, 5, 6, 7, 8, 11], [8, 11]), ([9, 12, 0, 1, 2, 3, 4, 5, 6, 7, 8, 9, 11, 12], [9]), ([10, 13, 0, 1, 2, 3, 4, 5, 6, 7, 8, 9, 10, 11, 12, 13], [10])])
def partitalaw16_SmfHead.B15 : List Nat := [0, 1, 3, 0, 8, 31, 63, 127, 255, 255, 255, 0, 2559, 7167, 16383]
theorem partitalaw16_SmfHead.tab15 : rtab .any (opsOf Try.f8 15) = partitalaw16_SmfHead.T15 := by kernel_rfl
theorem partitalaw16_SmfHead.bits15 : waitsOk partitalaw16_SmfHead.T15.2 partitalaw16_SmfHead.B15 = true := by kernel_rfl
def partitalaw16_SmfHead.T16 : Bool × List (List Nat × List Nat) := (true, [([], []), ([0], [0]), ([], []), ([2], [2]), ([3], [3]), ([4], [4]), ([5], [5]), ([1, 6], [1, 6]), ([], []), ([8], [8]), ([7, 9], [7, 9]), ([10], [10]), ([11], [11]), ([12], [12]), ([12], [12]), ([12], [12]), ([], []), ([16, 13, 11, 0, 1, 2, 3, 4, 5, 6, 7, 8, 9, 10, 11, 12, 13, 16], [13, 16]), ([14, 17, 0, 1, 2, 3, 4, 5, 6, 7, 8, 9, 10, 11, 12, 13, 14, 16, 17], [14]), ([15, 18, 0, 1, 2, 3, 4, 5, 6, 7, 8, 9, 10, 11, 12, 13, 14, 15, 16, 17, 18], [15])])
def partitalaw16_SmfHead.B16 : List Nat := [0, 1, 0, 4, 12, 28, 60, 127, 0, 256, 1023, 2047, 4095, 8191, 8191, 8191, 0, 81919, 229375, 524287]
theorem partitalaw16_SmfHead.tab16 : rtab .any (opsOf Try.f8 16) = partitalaw16_SmfHead.T16 := by kernel_rfl
theorem partitalaw16_SmfHead.bits16 : waitsOk partitalaw16_SmfHead.T16.2 partitalaw16_SmfHead.B16 = true := by kernel_rfl
def partitalaw16_SmfHead.T17 : Bool × List (List Nat × List Nat) := (true, [([], []), ([0], [0]), ([], []), ([2], [2]), ([3], [3]), ([4], [4]), ([5], [5]), ([1, 6], [1, 6]), ([], []), ([8], [8]), ([7, 9], [7, 9]), ([10], [10]), ([11], [11]), ([12], [12]), ([12], [12]), ([12], [12]), ([], []), ([16, 13, 11, 0, 1, 2, 3, 4, 5, 6, 7, 8, 9, 10, 11, 12, 13, 16], [13, 16]), ([14, 17, 0, 1, 2, 3, 4, 5, 6, 7, 8, 9, 10, 11, 12, 13, 14, 16, 17], [14]), ([15, 18, 0, 1, 2, 3, 4, 5, 6, 7, 8, 9, 10, 11, 12, 13, 14, 15, 16, 17, 18], [15])])
def partitalaw16_SmfHead.B17 : List Nat := [0, 1, 0, 4, 12, 28, 60, 127, 0, 256, 1023, 2047, 4095, 8191, 8191, 8191, 0, 81919, 229375, 524287]
theorem partitalaw16_SmfHead.tab17 : rtab .any (opsOf Try.f8 17) = partitalaw16_SmfHead.T17 := by kernel_rfl
theorem partitalaw16_SmfHead.bits17 : waitsOk partitalaw16_SmfHead.T17.2 partitalaw16_SmfHead.B17 = true := by kernel_rfl
def partitalaw16_SmfHead.T18 : Bool × List (List Nat × List Nat) := (true, [([], []), ([0], [0]), ([1], [1]), ([], []), ([3], [3]), ([2, 4], [2, 4]), ([5], [5]), ([6], [6]), ([7], [7]), ([7], [7]), ([7], [7]), ([], []), ([11, 8, 6, 0, 1, 2, 3, 4, 5, 6, 7, 8, 11], [8, 11]), ([9, 12, 0, 1, 2, 3, 4, 5, 6, 7, 8, 9, 11, 12], [9]), ([10, 13, 0, 1, 2, 3, 4, 5, 6, 7, 8, 9, 10, 11, 12, 13], [10])])
def partitalaw16_SmfHead.B18 : List Nat := [0, 1, 3, 0, 8, 31, 63, 127, 255, 255, 255, 0, 2559, 7167, 16383]
theorem partitalaw16_SmfHead.tab18 : rtab .any (opsOf Try.f8 18) = partitalaw16_SmfHead.T18 := by kernel_rfl
theorem partitalaw16_SmfHead.bits18 : waitsOk partitalaw16_SmfHead.T18.2 partitalaw16_SmfHead.B18 = true := by kernel_rfl
set_option maxHeartbeats 8000000 in
set_option maxRecDepth 100000 in
theorem partitalaw16_SmfHead.calls (k : Nat) (a0_0 : Int) (a0_1 : Int) (A0_2 : Option Addr) (c0_2 : Nat) (l0_2 : List (List (S28))) (a1 : Int) (a2 : Int) (r : Bool) (w : World) (hr0_2 : Kd.C (Kd.slice 28 k28) w A0_2 l0_2.length l0_2) (hc0_2 : l0_2.length ≤ c0_2) (h : partitalaw16_SmfHead.f k a0_0 a0_1 l0_2 a1 a2 = some r) :
    Calls Try.prog 8 #[.agg #[.int .i64 a0_0, .int .i64 a0_1, .slice A0_2 l0_2.length c0_2], .int .u8 a1, .int .u8 a2] w fun e w' => e = .returned (.bool r) ∧ Below w.heap.size w w' := by
  have hu24 := Try.underlying24
  have HR0_2 := Aside0.mk hr0_2
  have HC0_2 := Aside0.mk hc0_2
  clear hr0_2 hc0_2
  have HB := Aside0.mk (Below.refl w.heap.size w)
  have H := h
  unfold partitalaw16_SmfHead.f at H
  clear h
  replace H := Option.bind_eq_some_iff.mp H
  obtain ⟨t102, A40, H⟩ := H
  try dsimp -simprocs only at H
  have A4 := Aside0.mk A40
  clear A40
  by_cases c5 : t102 = true
  rotate_left
  · replace c5 := Bool.eq_false_iff.mpr c5
    subst c5
    have H1 : (some false) = some r := by rw [if_neg (show ¬ (false = true) by decide)] at H; exact H
    clear H
    have H := H1
    clear H1
    obtain rfl := Option.some.inj H
    go_enter Try.func8, Try.ntmps8
    go_wp2_with (first | ((with_reducible refine gate_dst (N := 3) rfl ?_); (try (refine gate_guard (by rfl) ?_; dsimp only)); refine box_event ?hg (N := 3) ?hd (cs := #[.int .i64 a0_0, .int .i64 a0_1, .slice A0_2 l0_2.length c0_2]) (t := 24) ?hr ?_; (case hd => rfl); (case hg => rfl); (case hr => exact qq6); intro gb101 hg w168 hbox hb; have BK101 := Aside0.mk (hbox); have GW101 := Aside0.mk ((qq9 : w.heap.size ≤ gb101)); have GE101 := Aside0.mk ((qq9 : w.heap.size ≤ gb101)); replace HB := Aside0.mk (below_step (qB HB.out) hb); clear hb hbox hg) | ((with_reducible refine gate_callee (f := 11) rfl ?_); refine goesL_ (some 30) rfl rfl Try.func11 (by kernel_rfl) rfl #[] rfl qq0 ?_; (with_reducible refine (partitalaw16_examples.calls k  false _ A4.out).mono ?_); rintro e w169 ⟨rfl, hb⟩; refine ⟨_, rfl, ?_⟩; replace BK101 := Aside0.mk (blk_below (bq BK101.out) hb); replace HB := Aside0.mk (below_step (qS1 GE101 HB.out) hb); (try clear hb); (try clear hb2); (try clear hk); (try clear hi)))
    go_ret
    exact ⟨qq5, qS1 GE101 HB.out⟩
  subst c5
  have H1 : ((partitalaw16_File.f k a0_0 a0_1 l0_2).bind fun bt103 => ((smf_Print.f k bt103.1 bt103.2.1 bt103.2.2).bind fun bt109 => (if bt109.2 = 0 then (if (bt109.1.size : Int) < 14 then (some false) else (if (wrap64 (Int.tmod a1 9)) = 8 then (partitalaw16_SmfHead.j0 k a2 true bt109.1 10 bt103.1 bt103.2.1 bt103.2.2) else (partitalaw16_SmfHead.j0 k a2 true bt109.1 (wrap64 (Int.tmod a1 9)) bt103.1 bt103.2.1 bt103.2.2))) else (none)))) = some r := by rw [if_pos rfl] at H; exact H
  clear H
  have H := H1
  clear H1
  replace H := Option.bind_eq_some_iff.mp H
  obtain ⟨⟨t103, t104, t105⟩, A60, H⟩ := H
  try dsimp -simprocs only at H
  have A6 := Aside0.mk A60
  clear A60
  replace H := Option.bind_eq_some_iff.mp H
  obtain ⟨⟨t109, t110⟩, A70, H⟩ := H
  try dsimp -simprocs only at H
  have A7 := Aside0.mk A70
  clear A70
  by_cases c8 : t110 = 0
  rotate_left
  · rw [if_neg c8] at H
    exact absurd H (by simp)
  rw [if_pos c8] at H
  have c8b0 : (t110 == 0) = true := beq_iff_eq.mpr c8
  have c8b1 : (t110 != 0) = false := bne_eq_false_iff_eq.mpr c8
  clear c8
  by_cases c9 : (t109.size : Int) < 14
  · rw [if_pos c9] at H
    have c9b0 : decide ((t109.size : Int) < 14) = true := decide_eq_true c9
    have c9b1 : decide (t109.size < 14) = true := decide_eq_true (by omega)
    clear c9
    obtain rfl := Option.some.inj H
    go_enter Try.func8, Try.ntmps8
    go_wp2_with (first | ((with_reducible refine gate_dst (N := 3) rfl ?_); (try (refine gate_guard (by rfl) ?_; dsimp only)); refine box_event ?hg (N := 3) ?hd (cs := #[.int .i64 a0_0, .int .i64 a0_1, .slice A0_2 l0_2.length c0_2]) (t := 24) ?hr ?_; (case hd => rfl); (case hg => rfl); (case hr => exact qq6); intro gb101 hg w10 hbox hb; have BK101 := Aside0.mk (hbox); have GW101 := Aside0.mk ((qq9 : w.heap.size ≤ gb101)); have GE101 := Aside0.mk ((qq9 : w.heap.size ≤ gb101)); replace HB := Aside0.mk (below_step (qB HB.out) hb); clear hb hbox hg) | ((with_reducible refine gate_callee (f := 11) rfl ?_); refine goesL_ (some 30) rfl rfl Try.func11 (by kernel_rfl) rfl #[] rfl qq0 ?_; (with_reducible refine (partitalaw16_examples.calls k  true _ A4.out).mono ?_); rintro e w11 ⟨rfl, hb⟩; refine ⟨_, rfl, ?_⟩; replace BK101 := Aside0.mk (blk_below (bq BK101.out) hb); replace HB := Aside0.mk (below_step (qS1 GE101 HB.out) hb); (try clear hb); (try clear hb2); (try clear hk); (try clear hi); obtain ⟨hcz12_0, hcz12_1, hcz12_2, hfz12_0, hfz12_1, hfz12_2⟩ := blk3 BK101.out) | ((with_reducible refine gate_callee (f := 12) rfl ?_); refine goesL_ (some 34) rfl rfl Try.func12 (by kernel_rfl) rfl #[.agg #[.int .i64 a0_0, .int .i64 a0_1, .slice A0_2 l0_2.length c0_2]] rfl qq0 ?_; (with_reducible refine (partitalaw16_File.calls k a0_0 a0_1 _ _ l0_2 t103 t104 t105 _ ?side1 ?side2 A6.out).mono ?_); (case side1 => repeat (first | exact (Kd.C_below HR0_2.out HB.out) | (with_reducible refine Kd.C_alloc ?_ _) | (with_reducible refine Kd.C_drewN ?_ _) | (with_reducible refine Kd.C_drew ?_))); (case side2 => exact HC0_2.out); rintro e w13 ⟨v106, rfl, ho0, hb⟩; refine ⟨_, rfl, ?_⟩; have HO107 := Aside0.mk (Kd.N_lower (Kd.N_mono (ok' := fun k_ => k_ ≠ gb101) ho0 (fun k_ hk_ => (Kd.freshB (bq BK101.out) k_ hk_))) (below_size (qS1 GE101 HB.out))); replace BK101 := Aside0.mk (blk_below (bq BK101.out) hb); replace HB := Aside0.mk (below_step (qS1 GE101 HB.out) hb); (try clear hb); (try clear hb2); (try clear hk); (try clear hi); (try clear ho0)) | ((with_reducible refine gate_dst (N := 8) rfl ?_); (try (refine gate_guard (by rfl) ?_; dsimp only)); refine box_event ?hg (N := 8) ?hd (cs := #[.int .i64 0, .int .i64 0, .slice none 0 0]) (t := 24) ?hr ?_; (case hd => rfl); (case hg => rfl); (case hr => exact qq6); intro gb108 hg w14 hbox hb; replace HO107 := Aside0.mk (Kd.N_below (Kd.N_elderB (qN HO107.out) gb108 (Nat.le_of_eq hg.symm)) hb); have BK108 := Aside0.mk (hbox); have GW108 := Aside0.mk ((qqh : w.heap.size ≤ gb108)); have GE108 := Aside0.mk ((qqh : w.heap.size ≤ gb108)); replace HB := Aside0.mk (below_step (qS1 GE101 HB.out) hb); have NB101_108 := Aside0.mk ((qqb : gb101 ≠ gb108)); have NB108_101 := Aside0.mk ((qqc : gb108 ≠ gb101)); replace BK101 := Aside0.mk (blk_below (bq BK101.out) hb); clear hb hbox hg; have hnb15 := NB108_101.out; have hnc15 := NB101_108.out; obtain ⟨hcz16_0, hcz16_1, hcz16_2, hfz16_0, hfz16_1, hfz16_2⟩ := blk3 BK108.out; obtain ⟨Ao17, co17, eo17⟩ := Kd.N_slice HO107.out; subst eo17) | ((with_reducible refine gate_callee (f := 15) rfl ?_); refine goesL_ (some 37) rfl rfl Try.func15 (by kernel_rfl) rfl #[.agg #[.int .i64 t103, .int .i64 t104, .slice Ao17 t105.length co17]] rfl qq0 ?_; (with_reducible refine (smf_Print.calls k t103 t104 _ _ t105 t109 t110 _ ?side1 ?side2 A7.out).mono ?_); (case side1 => refine (Kd.N_reads' (e := 30) (base := w.heap.size) (ok := fun k_ => (k_ ≠ gb101 ∧ k_ ≠ gb108)) (n := t105.length) (c := co17) ?_).2.2; exact qqZ); (case side2 => exact (Kd.N_reads' HO107.out).2.1); rintro e w18 ⟨rfl, hb⟩; refine ⟨_, rfl, ?_⟩; replace HO107 := Aside0.mk (Kd.N_below qqZ hb); replace BK101 := Aside0.mk (blk_below (g := gb101) (o := .cells #[.int .i64 a0_0, .int .i64 a0_1, .slice A0_2 l0_2.length c0_2] 24 (0, 0)) (by refine bq ?_; refine blk_far ?_ NB101_108.out _; refine bq ?_; refine blk_far ?_ NB101_108.out _; refine bq ?_; refine blk_far ?_ NB101_108.out _; exact bq BK101.out) hb); replace BK108 := Aside0.mk (blk_below (g := gb108) (o := .cells #[.int .i64 t103, .int .i64 t104, .slice Ao17 t105.length co17] 24 (0, 0)) (by refine bq ?_; refine blk_put (cs := #[.int .i64 t103, .int .i64 t104, .slice none 0 0]) ?_ 2 _ rfl; refine bq ?_; refine blk_put (cs := #[.int .i64 t103, .int .i64 0, .slice none 0 0]) ?_ 1 _ rfl; refine bq ?_; refine blk_put (cs := #[.int .i64 0, .int .i64 0, .slice none 0 0]) ?_ 0 _ rfl; exact bq BK108.out) hb); replace HB := Aside0.mk (below_step (qS2 GE101 GE108 HB.out) hb); (try clear hb); (try clear hb2); (try clear hk); (try clear hi)))
    go_ret
    exact ⟨qq5, qS2 GE101 GE108 HB.out⟩
  rw [if_neg c9] at H
  have c9b0 : decide ((t109.size : Int) < 14) = false := decide_eq_false c9
  have c9b1 : decide (t109.size < 14) = false := decide_eq_false (by omega)
  clear c9
  have HC19 := Aside0.mk H
  clear H
  go_enter Try.func8, Try.ntmps8
  go_upto_if 51 with (first | ((with_reducible refine gate_dst (N := 3) rfl ?_); (try (refine gate_guard (by rfl) ?_; dsimp only)); refine box_event ?hg (N := 3) ?hd (cs := #[.int .i64 a0_0, .int .i64 a0_1, .slice A0_2 l0_2.length c0_2]) (t := 24) ?hr ?_; (case hd => rfl); (case hg => rfl); (case hr => exact qq6); intro gb101 hg w20 hbox hb; have BK101 := Aside0.mk (hbox); have GW101 := Aside0.mk ((qq9 : w.heap.size ≤ gb101)); have GE101 := Aside0.mk ((qq9 : w.heap.size ≤ gb101)); replace HB := Aside0.mk (below_step (qB HB.out) hb); clear hb hbox hg) | ((with_reducible refine gate_callee (f := 11) rfl ?_); refine goesL_ (some 30) rfl rfl Try.func11 (by kernel_rfl) rfl #[] rfl qq0 ?_; (with_reducible refine (partitalaw16_examples.calls k  true _ A4.out).mono ?_); rintro e w21 ⟨rfl, hb⟩; refine ⟨_, rfl, ?_⟩; replace BK101 := Aside0.mk (blk_below (bq BK101.out) hb); replace HB := Aside0.mk (below_step (qS1 GE101 HB.out) hb); (try clear hb); (try clear hb2); (try clear hk); (try clear hi); obtain ⟨hcz22_0, hcz22_1, hcz22_2, hfz22_0, hfz22_1, hfz22_2⟩ := blk3 BK101.out) | ((with_reducible refine gate_callee (f := 12) rfl ?_); refine goesL_ (some 34) rfl rfl Try.func12 (by kernel_rfl) rfl #[.agg #[.int .i64 a0_0, .int .i64 a0_1, .slice A0_2 l0_2.length c0_2]] rfl qq0 ?_; (with_reducible refine (partitalaw16_File.calls k a0_0 a0_1 _ _ l0_2 t103 t104 t105 _ ?side1 ?side2 A6.out).mono ?_); (case side1 => repeat (first | exact (Kd.C_below HR0_2.out HB.out) | (with_reducible refine Kd.C_alloc ?_ _) | (with_reducible refine Kd.C_drewN ?_ _) | (with_reducible refine Kd.C_drew ?_))); (case side2 => exact HC0_2.out); rintro e w23 ⟨v106, rfl, ho0, hb⟩; refine ⟨_, rfl, ?_⟩; have HO107 := Aside0.mk (Kd.N_lower (Kd.N_mono (ok' := fun k_ => k_ ≠ gb101) ho0 (fun k_ hk_ => (Kd.freshB (bq BK101.out) k_ hk_))) (below_size (qS1 GE101 HB.out))); replace BK101 := Aside0.mk (blk_below (bq BK101.out) hb); replace HB := Aside0.mk (below_step (qS1 GE101 HB.out) hb); (try clear hb); (try clear hb2); (try clear hk); (try clear hi); (try clear ho0)) | ((with_reducible refine gate_dst (N := 8) rfl ?_); (try (refine gate_guard (by rfl) ?_; dsimp only)); refine box_event ?hg (N := 8) ?hd (cs := #[.int .i64 0, .int .i64 0, .slice none 0 0]) (t := 24) ?hr ?_; (case hd => rfl); (case hg => rfl); (case hr => exact qq6); intro gb108 hg w24 hbox hb; replace HO107 := Aside0.mk (Kd.N_below (Kd.N_elderB (qN HO107.out) gb108 (Nat.le_of_eq hg.symm)) hb); have BK108 := Aside0.mk (hbox); have GW108 := Aside0.mk ((qqh : w.heap.size ≤ gb108)); have GE108 := Aside0.mk ((qqh : w.heap.size ≤ gb108)); replace HB := Aside0.mk (below_step (qS1 GE101 HB.out) hb); have NB101_108 := Aside0.mk ((qqb : gb101 ≠ gb108)); have NB108_101 := Aside0.mk ((qqc : gb108 ≠ gb101)); replace BK101 := Aside0.mk (blk_below (bq BK101.out) hb); clear hb hbox hg; have hnb25 := NB108_101.out; have hnc25 := NB101_108.out; obtain ⟨hcz26_0, hcz26_1, hcz26_2, hfz26_0, hfz26_1, hfz26_2⟩ := blk3 BK108.out; obtain ⟨Ao27, co27, eo27⟩ := Kd.N_slice HO107.out; subst eo27) | ((with_reducible refine gate_callee (f := 15) rfl ?_); refine goesL_ (some 37) rfl rfl Try.func15 (by kernel_rfl) rfl #[.agg #[.int .i64 t103, .int .i64 t104, .slice Ao27 t105.length co27]] rfl qq0 ?_; (with_reducible refine (smf_Print.calls k t103 t104 _ _ t105 t109 t110 _ ?side1 ?side2 A7.out).mono ?_); (case side1 => refine (Kd.N_reads' (e := 30) (base := w.heap.size) (ok := fun k_ => (k_ ≠ gb101 ∧ k_ ≠ gb108)) (n := t105.length) (c := co27) ?_).2.2; exact qqY); (case side2 => exact (Kd.N_reads' HO107.out).2.1); rintro e w28 ⟨rfl, hb⟩; refine ⟨_, rfl, ?_⟩; replace HO107 := Aside0.mk (Kd.N_below qqY hb); replace BK101 := Aside0.mk (blk_below (g := gb101) (o := .cells #[.int .i64 a0_0, .int .i64 a0_1, .slice A0_2 l0_2.length c0_2] 24 (0, 0)) (by refine bq ?_; refine blk_far ?_ NB101_108.out _; refine bq ?_; refine blk_far ?_ NB101_108.out _; refine bq ?_; refine blk_far ?_ NB101_108.out _; exact bq BK101.out) hb); replace BK108 := Aside0.mk (blk_below (g := gb108) (o := .cells #[.int .i64 t103, .int .i64 t104, .slice Ao27 t105.length co27] 24 (0, 0)) (by refine bq ?_; refine blk_put (cs := #[.int .i64 t103, .int .i64 t104, .slice none 0 0]) ?_ 2 _ rfl; refine bq ?_; refine blk_put (cs := #[.int .i64 t103, .int .i64 0, .slice none 0 0]) ?_ 1 _ rfl; refine bq ?_; refine blk_put (cs := #[.int .i64 0, .int .i64 0, .slice none 0 0]) ?_ 0 _ rfl; exact bq BK108.out) hb); replace HB := Aside0.mk (below_step (qS2 GE101 GE108 HB.out) hb); (try clear hb); (try clear hb2); (try clear hk); (try clear hi)))
  (try simp only [Act.put, List.setIfInBounds_toArray, List.set_cons_zero, List.set_cons_succ])
  go_cut [11] (fun v11 wc => ∃ (kq : Nat) (x11_18 : Int), v11 = .int .i64 x11_18 ∧ Aside0 (partitalaw16_SmfHead.j0 kq a2 true t109 x11_18 t103 t104 t105 = some r) ∧ Aside0 (kq ≤ k) ∧ Aside0 (Kd.N (Kd.slice 28 k28) 30 wc w.heap.size (fun k_ => k_ ≠ gb101 ∧ k_ ≠ gb108) (.slice Ao27 t105.length co27) t105) ∧ Aside0 (wc.heap[gb101]? = some (.cells #[.int .i64 a0_0, .int .i64 a0_1, (.slice A0_2 l0_2.length c0_2)] 24 (0, 0))) ∧ Aside0 (wc.heap[gb108]? = some (.cells #[.int .i64 t103, .int .i64 t104, (.slice Ao27 t105.length co27)] 24 (0, 0))) ∧ Aside0 (Below w.heap.size w wc))
  case first =>
    have H := HC19.out
    clear HC19
    by_cases c29 : (wrap64 (Int.tmod a1 9)) = 8
    rotate_left
    · rw [if_neg c29] at H
      have c29b0 : ((wrap64 (Int.tmod a1 9)) == 8) = false := beq_eq_false_iff_ne.mpr c29
      have c29b1 : ((wrap64 (Int.tmod a1 9)) != 8) = true := bne_iff_ne.mpr c29
      (first | rw [c29b0] | (simp only [i64_w, i32_w]; rw [c29b0]) | skip)
      have H' := Aside0.mk H
      clear H
      go_wp2
      go_meet
      case rel => exact ⟨_, (wrap64 (Int.tmod a1 9)), qq8, H', ⟨qqA⟩, ⟨qN HO107.out⟩, ⟨bq BK101.out⟩, ⟨bq BK108.out⟩, ⟨qS2 GE101 GE108 HB.out⟩⟩
    rw [if_pos c29] at H
    have c29b0 : ((wrap64 (Int.tmod a1 9)) == 8) = true := beq_iff_eq.mpr c29
    have c29b1 : ((wrap64 (Int.tmod a1 9)) != 8) = false := bne_eq_false_iff_eq.mpr c29
    clear c29
    (first | rw [c29b0] | (simp only [i64_w, i32_w]; rw [c29b0]) | skip)
    have H' := Aside0.mk H
    clear H
    go_wp2
    go_meet
    case rel => exact ⟨_, (10), qq8, H', ⟨qqA⟩, ⟨qN HO107.out⟩, ⟨bq BK101.out⟩, ⟨bq BK108.out⟩, ⟨qS2 GE101 GE108 HB.out⟩⟩
  case rest =>
    clear HC19
    try clear c1
    try clear c2
    try clear p2
    try clear c5
    try clear p6
    try clear c8
    try clear c8b0
    try clear c8b1
    try clear c9
    try clear c9b0
    try clear c9b1
    try clear c11
    try clear c12
    try clear c15
    try clear c25
    try clear c29
    try clear c29b0
    try clear c29b1
    try clear hcz12_0
    try clear hcz12_1
    try clear hcz12_2
    try clear hcz16_0
    try clear hcz16_1
    try clear hcz16_2
    try clear hcz22_0
    try clear hcz22_1
    try clear hcz22_2
    try clear hcz26_0
    try clear hcz26_1
    try clear hcz26_2
    try clear hfz12_0
    try clear hfz12_1
    try clear hfz12_2
    try clear hfz16_0
    try clear hfz16_1
    try clear hfz16_2
    try clear hfz22_0
    try clear hfz22_1
    try clear hfz22_2
    try clear hfz26_0
    try clear hfz26_1
    try clear hfz26_2
    obtain ⟨kq, x11_18, rfl, HA, HJ18, HO_109002, BK101, BK108, HB⟩ := hcut
    cases kq with
    | zero => exact absurd HA.out (by simp [partitalaw16_SmfHead.j0])
    | succ kj18 =>
      have H := HA.out
      clear HA
      simp only [partitalaw16_SmfHead.j0] at H
      by_cases c30 : 0 ≤ x11_18
      rotate_left
      · rw [if_neg c30] at H
        exact absurd H (by simp)
      rw [if_pos c30] at H
      have c30b0 := eq_true c30
      have c30b1 : decide (0 ≤ x11_18) = true := decide_eq_true c30
      clear c30
      by_cases c31 : x11_18 ≤ (t109.size : Int)
      rotate_left
      · rw [if_neg c31] at H
        exact absurd H (by simp)
      rw [if_pos c31] at H
      have c31b0 := eq_true c31
      have c31b1 : decide (x11_18 ≤ (t109.size : Int)) = true := decide_eq_true c31
      clear c31
      obtain ⟨y111, hy111⟩ : ∃ y_ : List Int, y_ = (([a2] : List Int)) := ⟨_, rfl⟩
      replace H : (if (t109.extract 0 (x11_18 : Int).toNat).size + (strOfNums y111).size ≤ 9223372036854775807 then (if 0 ≤ (wrap64 (x11_18 + 1)) then (if (wrap64 (x11_18 + 1)) ≤ (t109.size : Int) then (if ((t109.extract 0 (x11_18 : Int).toNat) ++ (strOfNums y111)).size + (t109.extract ((wrap64 (x11_18 + 1)) : Int).toNat t109.size).size ≤ 9223372036854775807 then ((smf_Parse.f kj18 (((t109.extract 0 (x11_18 : Int).toNat) ++ (strOfNums y111)) ++ (t109.extract ((wrap64 (x11_18 + 1)) : Int).toNat t109.size))).bind fun bt114 => (if x11_18 < (t109.size : Int) then (if a2 = (bt t109 x11_18) then (if true = true then (if bt114.2.2.2.2 = 0 then ((smf_Same.f kj18 t103 t104 t105 bt114.1 bt114.2.1 bt114.2.2.1).bind fun t122 => (some t122)) else (none)) else (none)) else (if 0 ≤ 9 then (if 9 ≤ (t109.size : Int) then ((some (([(2 + (Int.tmod a2 254)) % 256] : List Int) : List Int)).bind fun y123 => (if (t109.extract 0 9).size + (strOfNums y123).size ≤ 9223372036854775807 then (if 10 ≤ (t109.size : Int) then (if ((t109.extract 0 9) ++ (strOfNums y123)).size + (t109.extract 10 t109.size).size ≤ 9223372036854775807 then ((smf_Parse.f kj18 (((t109.extract 0 9) ++ (strOfNums y123)) ++ (t109.extract 10 t109.size))).bind fun bt126 => (if 0 ≤ 11 then (if 11 ≤ (t109.size : Int) then (if (t109.extract 0 11).size + 1 ≤ 9223372036854775807 then (if 12 ≤ (t109.size : Int) then (if ((t109.extract 0 11) ++ (⟨#[0]⟩ : ByteArray)).size + (t109.extract 12 t109.size).size ≤ 9223372036854775807 then ((smf_Parse.f kj18 (((t109.extract 0 11) ++ (⟨#[0]⟩ : ByteArray)) ++ (t109.extract 12 t109.size))).bind fun bt134 => ((some (([(17 + (Int.tmod a2 239)) % 256] : List Int) : List Int)).bind fun y142 => (if (t109.extract 0 11).size + (strOfNums y142).size ≤ 9223372036854775807 then (if ((t109.extract 0 11) ++ (strOfNums y142)).size + (t109.extract 12 t109.size).size ≤ 9223372036854775807 then ((smf_Parse.f kj18 (((t109.extract 0 11) ++ (strOfNums y142)) ++ (t109.extract 12 t109.size))).bind fun bt145 => (if 0 ≤ 12 then ((some (([(128 + (Int.tmod a2 128)) % 256] : List Int) : List Int)).bind fun y153 => (if (t109.extract 0 12).size + (strOfNums y153).size ≤ 9223372036854775807 then (if 13 ≤ (t109.size : Int) then (if ((t109.extract 0 12) ++ (strOfNums y153)).size + (t109.extract 13 t109.size).size ≤ 9223372036854775807 then ((smf_Parse.f kj18 (((t109.extract 0 12) ++ (strOfNums y153)) ++ (t109.extract 13 t109.size))).bind fun bt156 => (if (t109.extract 0 12).size + 2 ≤ 9223372036854775807 then (if 14 ≤ (t109.size : Int) then (if ((t109.extract 0 12) ++ (⟨#[0, 0]⟩ : ByteArray)).size + (t109.extract 14 t109.size).size ≤ 9223372036854775807 then ((smf_Parse.f kj18 (((t109.extract 0 12) ++ (⟨#[0, 0]⟩ : ByteArray)) ++ (t109.extract 14 t109.size))).bind fun bt164 => (if true = true then (if bt114.2.2.2.2 = 160 then (if bt114.2.2.2.1 = x11_18 then (if bt126.2.2.2.2 = 160 then (if bt126.2.2.2.1 = 9 then (if bt134.2.2.2.2 = 160 then (if bt134.2.2.2.1 = 11 then (if bt145.2.2.2.2 = 160 then (if bt145.2.2.2.1 = 11 then (if bt156.2.2.2.2 = 160 then (if bt156.2.2.2.1 = 12 then (if bt164.2.2.2.2 = 160 then (some (bt164.2.2.2.1 == 13)) else (none)) else (none)) else (none)) else (none)) else (none)) else (none)) else (none)) else (none)) else (none)) else (none)) else (none)) else (none))) else (none)) else (none)) else (none))) else (none)) else (none)) else (none))) else (none))) else (none)) else (none)))) else (none)) else (none)) else (none)) else (none)) else (none))) else (none)) else (none)) else (none))) else (none)) else (none))) else (none))) else (none)) else (none)) else (none)) else (none)) = some r := by first | (rw [hy111]; with_reducible exact H) | (have H2_ := (Option.bind_some _ _).symm.trans H; rw [hy111]; with_reducible exact H2_) | (have H2_ := (Option.bind_some _ _).symm.trans H; with_reducible exact H2_) | with_reducible exact H | (rw [hy111]; exact H) | exact H
      have Ny111 := Aside0.mk hy111
      clear hy111
      by_cases c32 : (t109.extract 0 (x11_18 : Int).toNat).size + (strOfNums y111).size ≤ 9223372036854775807
      rotate_left
      · rw [if_neg c32] at H
        exact absurd H (by simp)
      rw [if_pos c32] at H
      have c32b0 := eq_true c32
      have c32b1 : decide ((t109.extract 0 (x11_18 : Int).toNat).size + (strOfNums y111).size ≤ 9223372036854775807) = true := decide_eq_true c32
      try have c32b2 : (9223372036854775807 < (t109.extract 0 (x11_18 : Int).toNat).size + (strOfNums y111).size) = False := eq_false (Nat.not_lt.2 c32)
      have c32b3 : (9223372036854775807 < (x11_18 : Int).toNat + (strOfNums y111).size) = False := eq_false (by have e_ := c32; (try simp only [ByteArray.size_append, ByteArray.size_extract, Nat.sub_zero] at e_); have f0_ := of_eq_true c30b0; have f1_ := of_eq_true c31b0; omega)
      obtain ⟨ji33, hji33⟩ : ∃ j_ : Int, (wrap64 (x11_18 + 1)) = j_ := ⟨_, rfl⟩
      replace H : (if 0 ≤ (ji33) then (if (ji33) ≤ (t109.size : Int) then (if ((t109.extract 0 (x11_18 : Int).toNat) ++ (strOfNums y111)).size + (t109.extract ((ji33) : Int).toNat t109.size).size ≤ 9223372036854775807 then ((smf_Parse.f kj18 (((t109.extract 0 (x11_18 : Int).toNat) ++ (strOfNums y111)) ++ (t109.extract ((ji33) : Int).toNat t109.size))).bind fun bt114 => (if x11_18 < (t109.size : Int) then (if a2 = (bt t109 x11_18) then (if true = true then (if bt114.2.2.2.2 = 0 then ((smf_Same.f kj18 t103 t104 t105 bt114.1 bt114.2.1 bt114.2.2.1).bind fun t122 => (some t122)) else (none)) else (none)) else (if 0 ≤ 9 then (if 9 ≤ (t109.size : Int) then ((some (([(2 + (Int.tmod a2 254)) % 256] : List Int) : List Int)).bind fun y123 => (if (t109.extract 0 9).size + (strOfNums y123).size ≤ 9223372036854775807 then (if 10 ≤ (t109.size : Int) then (if ((t109.extract 0 9) ++ (strOfNums y123)).size + (t109.extract 10 t109.size).size ≤ 9223372036854775807 then ((smf_Parse.f kj18 (((t109.extract 0 9) ++ (strOfNums y123)) ++ (t109.extract 10 t109.size))).bind fun bt126 => (if 0 ≤ 11 then (if 11 ≤ (t109.size : Int) then (if (t109.extract 0 11).size + 1 ≤ 9223372036854775807 then (if 12 ≤ (t109.size : Int) then (if ((t109.extract 0 11) ++ (⟨#[0]⟩ : ByteArray)).size + (t109.extract 12 t109.size).size ≤ 9223372036854775807 then ((smf_Parse.f kj18 (((t109.extract 0 11) ++ (⟨#[0]⟩ : ByteArray)) ++ (t109.extract 12 t109.size))).bind fun bt134 => ((some (([(17 + (Int.tmod a2 239)) % 256] : List Int) : List Int)).bind fun y142 => (if (t109.extract 0 11).size + (strOfNums y142).size ≤ 9223372036854775807 then (if ((t109.extract 0 11) ++ (strOfNums y142)).size + (t109.extract 12 t109.size).size ≤ 9223372036854775807 then ((smf_Parse.f kj18 (((t109.extract 0 11) ++ (strOfNums y142)) ++ (t109.extract 12 t109.size))).bind fun bt145 => (if 0 ≤ 12 then ((some (([(128 + (Int.tmod a2 128)) % 256] : List Int) : List Int)).bind fun y153 => (if (t109.extract 0 12).size + (strOfNums y153).size ≤ 9223372036854775807 then (if 13 ≤ (t109.size : Int) then (if ((t109.extract 0 12) ++ (strOfNums y153)).size + (t109.extract 13 t109.size).size ≤ 9223372036854775807 then ((smf_Parse.f kj18 (((t109.extract 0 12) ++ (strOfNums y153)) ++ (t109.extract 13 t109.size))).bind fun bt156 => (if (t109.extract 0 12).size + 2 ≤ 9223372036854775807 then (if 14 ≤ (t109.size : Int) then (if ((t109.extract 0 12) ++ (⟨#[0, 0]⟩ : ByteArray)).size + (t109.extract 14 t109.size).size ≤ 9223372036854775807 then ((smf_Parse.f kj18 (((t109.extract 0 12) ++ (⟨#[0, 0]⟩ : ByteArray)) ++ (t109.extract 14 t109.size))).bind fun bt164 => (if true = true then (if bt114.2.2.2.2 = 160 then (if bt114.2.2.2.1 = x11_18 then (if bt126.2.2.2.2 = 160 then (if bt126.2.2.2.1 = 9 then (if bt134.2.2.2.2 = 160 then (if bt134.2.2.2.1 = 11 then (if bt145.2.2.2.2 = 160 then (if bt145.2.2.2.1 = 11 then (if bt156.2.2.2.2 = 160 then (if bt156.2.2.2.1 = 12 then (if bt164.2.2.2.2 = 160 then (some (bt164.2.2.2.1 == 13)) else (none)) else (none)) else (none)) else (none)) else (none)) else (none)) else (none)) else (none)) else (none)) else (none)) else (none)) else (none))) else (none)) else (none)) else (none))) else (none)) else (none)) else (none))) else (none))) else (none)) else (none)))) else (none)) else (none)) else (none)) else (none)) else (none))) else (none)) else (none)) else (none))) else (none)) else (none))) else (none))) else (none)) else (none)) else (none)) = some r := by first | (rw [hji33] at H; exact H) | (simp only [hji33] at H ⊢; exact H)
      have hji33w : (IntKind.i64.wrap (x11_18 + 1)) = ji33 := (i64_w _).trans hji33
      by_cases c34 : 0 ≤ (ji33)
      rotate_left
      · rw [if_neg c34] at H
        exact absurd H (by simp)
      rw [if_pos c34] at H
      have c34b0 := eq_true c34
      have c34b1 : decide (0 ≤ (ji33)) = true := decide_eq_true c34
      clear c34
      by_cases c35 : (ji33) ≤ (t109.size : Int)
      rotate_left
      · rw [if_neg c35] at H
        exact absurd H (by simp)
      rw [if_pos c35] at H
      have c35b0 := eq_true c35
      have c35b1 : decide ((ji33) ≤ (t109.size : Int)) = true := decide_eq_true c35
      clear c35
      by_cases c36 : ((t109.extract 0 (x11_18 : Int).toNat) ++ (strOfNums y111)).size + (t109.extract ((ji33) : Int).toNat t109.size).size ≤ 9223372036854775807
      rotate_left
      · rw [if_neg c36] at H
        exact absurd H (by simp)
      rw [if_pos c36] at H
      have c36b0 := eq_true c36
      have c36b1 : decide (((t109.extract 0 (x11_18 : Int).toNat) ++ (strOfNums y111)).size + (t109.extract ((ji33) : Int).toNat t109.size).size ≤ 9223372036854775807) = true := decide_eq_true c36
      try have c36b2 : (9223372036854775807 < ((t109.extract 0 (x11_18 : Int).toNat) ++ (strOfNums y111)).size + (t109.extract ((ji33) : Int).toNat t109.size).size) = False := eq_false (Nat.not_lt.2 c36)
      have c36b3 : (9223372036854775807 < ((x11_18 : Int).toNat + (strOfNums y111).size) + (t109.size - ((ji33) : Int).toNat)) = False := eq_false (by have e_ := c36; (try simp only [ByteArray.size_append, ByteArray.size_extract, Nat.sub_zero] at e_); have f0_ := of_eq_true c30b0; have f1_ := of_eq_true c31b0; have f2_ := of_eq_true c34b0; have f3_ := of_eq_true c35b0; omega)
      replace H := Option.bind_eq_some_iff.mp H
      obtain ⟨⟨t114, t115, t116, t119, t120⟩, A370, H⟩ := H
      try dsimp -simprocs only at H
      have A37 := Aside0.mk A370
      clear A370
      by_cases c38 : x11_18 < (t109.size : Int)
      rotate_left
      · rw [if_neg c38] at H
        exact absurd H (by simp)
      rw [if_pos c38] at H
      have c38b0 : decide (x11_18 < (t109.size : Int)) = true := decide_eq_true c38
      clear c38
      by_cases c40 : a2 = (bt t109 x11_18)
      · rw [if_pos c40] at H
        have c40b0 : (a2 == (bt t109 x11_18)) = true := beq_iff_eq.mpr c40
        have c40b1 : (a2 != (bt t109 x11_18)) = false := bne_eq_false_iff_eq.mpr c40
        clear c40
        by_cases c41 : true = true
        rotate_left
        · exact absurd rfl c41
        clear c41
        have H1 : (if t120 = 0 then ((smf_Same.f kj18 t103 t104 t105 t114 t115 t116).bind fun t122 => (some t122)) else (none)) = some r := by first | (rw [if_pos rfl] at H; exact H) | (rw [if_pos trivial] at H; exact H)
        clear H
        have H := H1
        clear H1
        by_cases c42 : t120 = 0
        rotate_left
        · rw [if_neg c42] at H
          exact absurd H (by simp)
        rw [if_pos c42] at H
        have c42b0 : (t120 == 0) = true := beq_iff_eq.mpr c42
        have c42b1 : (t120 != 0) = false := bne_eq_false_iff_eq.mpr c42
        clear c42
        replace H := Option.bind_eq_some_iff.mp H
        obtain ⟨t122, A430, H⟩ := H
        try dsimp -simprocs only at H
        have A43 := Aside0.mk A430
        clear A430
        obtain rfl := Option.some.inj H
        try go_wp2
        replace HO_109002 := Aside0.mk (Kd.N_drew HO_109002.out)
        replace BK101 := Aside0.mk (blk_drew BK101.out)
        replace BK108 := Aside0.mk (blk_drew BK108.out)
        replace HB := Aside0.mk (below_drew1 HB.out)
        refine start_ (n := 21) (S := fun w' => True) (ds := []) #[false, false, false, false, false, false, false, false, false, false, false, false, false, false, false, false, false, false, false, false, false] (by kernel_rfl) rfl rfl trivial (fun hHeld => ?_); refine with_tabW partitalaw16_SmfHead.tab11 partitalaw16_SmfHead.bits11 (fun HT_ HW_ => ?_)
        generalize wc.drew = w44 at HO_109002 BK101 BK108 HB hHeld ⊢
        refine pureS 0 (some 53) (bs 1 21) ?_
        refine pureS 1 (some 54) (bs 3 21) ?_
        refine pureS 2 (some 55) (bs 7 21) ?_
        refine pureS 3 (some 56) (bs 15 21) ?_
        refine pureS 7 (some 60) (bs 143 21) ?_
        refine pureS 8 (some 61) (bs 399 21) ?_
        refine pureS 9 (some 62) (bs 911 21) ?_
        refine pureS 10 (some 63) (bs 1935 21) ?_
        refine join_ (σ := Value × Value × Nat) 3 (bs 262143 21) (fun s_ => [(57, s_.1), (58, .string (strOfNums y111)), (65, .tuple #[.agg #[.int .i64 t114, .int .i64 t115, s_.2.1], .int .i64 t119, .int .i64 t120]), (12, .pointer (some ⟨s_.2.2, 0, none⟩)), (59, .string ((t109.extract 0 (x11_18 : Int).toNat) ++ (strOfNums y111))), (64, .string (((t109.extract 0 (x11_18 : Int).toNat) ++ (strOfNums y111)) ++ (t109.extract ((ji33) : Int).toNat t109.size))), (52, .tuple #[.agg #[.int .i64 t114, .int .i64 t115, s_.2.1], .int .i64 t119, .int .i64 t120]), (66, .agg #[.int .i64 t114, .int .i64 t115, s_.2.1]), (67, .int .i64 t119), (68, .int .i64 t120)]) (fun s_ w' => (Kd.R (Kd.int .u8) 5 w' w.heap.size (fun _ => True) s_.1 y111) ∧ (Kd.N (Kd.slice 28 k28) 30 w' w.heap.size (fun k_ => some k_ ≠ (s_.1 : Value).ownBlock ∧ some k_ ≠ (.slice Ao27 t105.length co27 : Value).ownBlock ∧ k_ ≠ gb101 ∧ k_ ≠ gb108 ∧ k_ ≠ s_.2.2) s_.2.1 t116) ∧ (Kd.N (Kd.slice 28 k28) 30 w' w.heap.size (fun k_ => some k_ ≠ (s_.1 : Value).ownBlock ∧ some k_ ≠ (s_.2.1 : Value).ownBlock ∧ k_ ≠ gb101 ∧ k_ ≠ gb108 ∧ k_ ≠ s_.2.2) (.slice Ao27 t105.length co27) t105) ∧ (w'.heap[gb101]? = some (.cells #[.int .i64 a0_0, .int .i64 a0_1, .slice A0_2 l0_2.length c0_2] 24 (0, 0))) ∧ (w'.heap[gb108]? = some (.cells #[.int .i64 t103, .int .i64 t104, .slice Ao27 t105.length co27] 24 (0, 0))) ∧ (w'.heap[s_.2.2]? = some (.cells #[.int .i64 0, .int .i64 0, .slice none 0 0] 24 (0, 0))) ∧ (w.heap.size ≤ s_.2.2) ∧ (w.heap.size ≤ s_.2.2) ∧ (gb101 ≠ s_.2.2) ∧ (s_.2.2 ≠ gb101) ∧ (gb108 ≠ s_.2.2) ∧ (s_.2.2 ≠ gb108) ∧ (Below w.heap.size w w')) ?_ ?_
        rotate_left
        · intro hCont
          refine two_ (i := 4) (j := 17) (Ni := some 57) (Nj := some 12) (bs 1951 21) (bs 133007 21) rfl rfl rfl rfl (two_of HT_.out (by kernel_rfl)) (by decide) (by decide) (fun K hK => ?_) (fun K hK => ?_)
          rotate_left
          · skip
            refine box_step ?hg (N := 12) ?hd (cs := #[.int .i64 0, .int .i64 0, .slice none 0 0]) (t := 24) ?hr ?_; (case hd => rfl); (case hg => rfl); (case hr => exact qq6)
            intro gb121 hg w45 hbox hb
            replace HO_109002 := Aside0.mk (Kd.N_below (Kd.N_elderB (qN HO_109002.out) gb121 (Nat.le_of_eq hg.symm)) hb)
            have BK121 := Aside0.mk (hbox)
            have GW121 := Aside0.mk ((qqi : w.heap.size ≤ gb121))
            have GE121 := Aside0.mk ((qqi : w.heap.size ≤ gb121))
            replace HB := Aside0.mk (below_step (qS2 GE101 GE108 HB.out) hb)
            have NB101_121 := Aside0.mk ((qqb : gb101 ≠ gb121))
            have NB121_101 := Aside0.mk ((qqc : gb121 ≠ gb101))
            replace BK101 := Aside0.mk (blk_below (bq BK101.out) hb)
            have NB108_121 := Aside0.mk ((qqC : gb108 ≠ gb121))
            have NB121_108 := Aside0.mk ((qqD : gb121 ≠ gb108))
            replace BK108 := Aside0.mk (blk_below (bq BK108.out) hb)
            clear hb hbox hg
            refine hK.out _ _ trivial (fun hHeld => ?_)
            clear hK K
            refine normS (some 12) ?_
            refine one_ (i := 4) (N := some 57) (bs 133023 21) rfl rfl (one_of HT_.out (by kernel_rfl)) (by decide) (fun K hK => ?_)
            refine Kd.R_lit_step (Kd.int .u8) _ 5 ?hg (N := 57) ?hd (xs := ([a2] : List Int)) (inner := [.int .u8 a2]) (ok := fun _ => True) (okp := fun _ => True) ?hr ?hp (fun _ hk => hk) trivial (Below.refl _ _) (Nat.le_refl _) (by simp) ?_; (case hd => rfl); (case hg => rfl); (case hr => exact qq6); (case hp => exact qq1a)
            intro v112 w46 ho47 hb hg_ hnew_
            clear hg_ hnew_
            (first | rw [← Ny111.out] at ho47 | (simp only [Int.reduceToNat] at ho47; rw [← Ny111.out] at ho47))
            replace HO_109002 := Aside0.mk (Kd.N_elder' (qN HO_109002.out) (Kd.R_base ho47) hb)
            have HO113 := Aside0.mk (Kd.R_lower ho47 (below_size (qS3 GE101 GE108 GE121 HB.out)))
            replace BK101 := Aside0.mk (blk_below (bq BK101.out) hb)
            replace BK108 := Aside0.mk (blk_below (bq BK108.out) hb)
            replace BK121 := Aside0.mk (blk_below (bq BK121.out) hb)
            replace HB := Aside0.mk (below_step (qS3 GE101 GE108 GE121 HB.out) hb)
            clear hb ho47
            refine hK.out _ _ trivial (fun hHeld => ?_)
            clear hK K
            refine normS (some 57) ?_
            refine one_ (i := 5) (N := some 58) (bs 133055 21) rfl rfl (one_of HT_.out (by kernel_rfl)) (by decide) (fun K hK => ?_)
            have hcv48 := own_string (P := Try.prog) Try.underlying39 Try.underlying5 Try.underlying9 (Kd.own_of_R HO113.out)
            refine value_ (w1 := ?_) (v := ?_) (by rfl) rfl ?_ ?_
            rotate_left 2
            · go_simp
              constructor
              · rfl
              rfl
            clear hcv48
            refine hK.out _ _ trivial (fun hHeld => ?_)
            clear hK K
            refine normS (some 58) ?_
            refine pureS 6 (some 59) (bs 133119 21) ?_
            refine pureS 11 (some 64) (bs 135167 21) ?_
            refine one_ (i := 12) (N := some 65) (bs 139263 21) rfl rfl (one_of HT_.out (by kernel_rfl)) (by decide) (fun K hK => ?_)
            refine goes_ Try.func21 (by kernel_rfl) rfl #[.string (((t109.extract 0 (x11_18 : Int).toNat) ++ (strOfNums y111)) ++ (t109.extract ((ji33) : Int).toNat t109.size))] (by rfl) rfl rfl qqg ?_
            with_reducible refine (smf_Parse.calls kj18 (((t109.extract 0 (x11_18 : Int).toNat) ++ (strOfNums y111)) ++ (t109.extract ((ji33) : Int).toNat t109.size)) t114 t115 t116 t119 t120 _ A37.out).mono ?_
            rintro e w49 ⟨v117, rfl, ho0, hb⟩
            refine ⟨_, rfl, ?_⟩
            have HO118 := Aside0.mk (Kd.N_lower (Kd.N_mono (ok' := fun k_ => some k_ ≠ (.slice Ao27 t105.length co27 : Value).ownBlock ∧ some k_ ≠ (v112 : Value).ownBlock ∧ k_ ≠ gb101 ∧ k_ ≠ gb108 ∧ k_ ≠ gb121) (Kd.S_N (Kd.S_bound ho0)) (fun k_ hk_ => ⟨(Kd.fresh' (Kd.N_lt (qN HO_109002.out)) k_ hk_.2.1), (Kd.fresh' (Kd.R_lt (qR HO113.out)) k_ hk_.2.1), (Kd.freshB (bq BK101.out) k_ hk_.2.1), (Kd.freshB (bq BK108.out) k_ hk_.2.1), (Kd.freshB (bq BK121.out) k_ hk_.2.1)⟩)) (below_size (qS3 GE101 GE108 GE121 HB.out)))
            replace HO_109002 := Aside0.mk (Kd.N_elder' (qN HO_109002.out) qqd hb)
            replace HO113 := Aside0.mk (Kd.R_below (qR HO113.out) hb)
            replace BK101 := Aside0.mk (blk_below (bq BK101.out) hb)
            replace BK108 := Aside0.mk (blk_below (bq BK108.out) hb)
            replace BK121 := Aside0.mk (blk_below (bq BK121.out) hb)
            replace HB := Aside0.mk (below_step (qS3 GE101 GE108 GE121 HB.out) hb)
            (try clear hb)
            (try clear hb2)
            (try clear hk)
            (try clear hi)
            (try clear ho0)
            refine hK.out _ _ trivial (fun hHeld => ?_)
            clear hK K
            refine normS (some 65) ?_
            refine pureS 13 (some 52) (bs 147455 21) ?_
            refine pureS 14 (some 66) (bs 163839 21) ?_
            refine pureS 15 (some 67) (bs 196607 21) ?_
            refine pureS 16 (some 68) (bs 262143 21) ?_
            exact norm_ qq1 (hCont (v112, v117, gb121) _ ⟨(qR HO113.out), qqj, qq1d, (bq BK101.out), (bq BK108.out), (bq BK121.out), GW121.out, GE121.out, NB101_121.out, NB121_101.out, NB108_121.out, NB121_108.out, (qS3 GE101 GE108 GE121 HB.out)⟩)
          skip
          refine Kd.R_lit_step (Kd.int .u8) _ 5 ?hg (N := 57) ?hd (xs := ([a2] : List Int)) (inner := [.int .u8 a2]) (ok := fun _ => True) (okp := fun _ => True) ?hr ?hp (fun _ hk => hk) trivial (Below.refl _ _) (Nat.le_refl _) (by simp) ?_; (case hd => rfl); (case hg => rfl); (case hr => exact qq6); (case hp => exact qq1a)
          intro v112 w45 ho46 hb hg_ hnew_
          clear hg_ hnew_
          (first | rw [← Ny111.out] at ho46 | (simp only [Int.reduceToNat] at ho46; rw [← Ny111.out] at ho46))
          replace HO_109002 := Aside0.mk (Kd.N_elder' (qN HO_109002.out) (Kd.R_base ho46) hb)
          have HO113 := Aside0.mk (Kd.R_lower ho46 (below_size (qS2 GE101 GE108 HB.out)))
          replace BK101 := Aside0.mk (blk_below (bq BK101.out) hb)
          replace BK108 := Aside0.mk (blk_below (bq BK108.out) hb)
          replace HB := Aside0.mk (below_step (qS2 GE101 GE108 HB.out) hb)
          clear hb ho46
          refine hK.out _ _ trivial (fun hHeld => ?_)
          clear hK K
          refine normS (some 57) ?_
          refine two_ (i := 5) (j := 17) (Ni := some 58) (Nj := some 12) (bs 1983 21) (bs 133023 21) rfl rfl rfl rfl (two_of HT_.out (by kernel_rfl)) (by decide) (by decide) (fun K hK => ?_) (fun K hK => ?_)
          rotate_left
          · skip
            refine box_step ?hg (N := 12) ?hd (cs := #[.int .i64 0, .int .i64 0, .slice none 0 0]) (t := 24) ?hr ?_; (case hd => rfl); (case hg => rfl); (case hr => exact qq6)
            intro gb121 hg w47 hbox hb
            replace HO_109002 := Aside0.mk (Kd.N_below (Kd.N_elderB (qN HO_109002.out) gb121 (Nat.le_of_eq hg.symm)) hb)
            replace HO113 := Aside0.mk (Kd.R_below (qR HO113.out) hb)
            have BK121 := Aside0.mk (hbox)
            have GW121 := Aside0.mk ((qqi : w.heap.size ≤ gb121))
            have GE121 := Aside0.mk ((qqi : w.heap.size ≤ gb121))
            replace HB := Aside0.mk (below_step (qS2 GE101 GE108 HB.out) hb)
            have NB101_121 := Aside0.mk ((qqb : gb101 ≠ gb121))
            have NB121_101 := Aside0.mk ((qqc : gb121 ≠ gb101))
            replace BK101 := Aside0.mk (blk_below (bq BK101.out) hb)
            have NB108_121 := Aside0.mk ((qqC : gb108 ≠ gb121))
            have NB121_108 := Aside0.mk ((qqD : gb121 ≠ gb108))
            replace BK108 := Aside0.mk (blk_below (bq BK108.out) hb)
            clear hb hbox hg
            refine hK.out _ _ trivial (fun hHeld => ?_)
            clear hK K
            refine normS (some 12) ?_
            refine one_ (i := 5) (N := some 58) (bs 133055 21) rfl rfl (one_of HT_.out (by kernel_rfl)) (by decide) (fun K hK => ?_)
            have hcv48 := own_string (P := Try.prog) Try.underlying39 Try.underlying5 Try.underlying9 (Kd.own_of_R HO113.out)
            refine value_ (w1 := ?_) (v := ?_) (by rfl) rfl ?_ ?_
            rotate_left 2
            · go_simp
              constructor
              · rfl
              rfl
            clear hcv48
            refine hK.out _ _ trivial (fun hHeld => ?_)
            clear hK K
            refine normS (some 58) ?_
            refine pureS 6 (some 59) (bs 133119 21) ?_
            refine pureS 11 (some 64) (bs 135167 21) ?_
            refine one_ (i := 12) (N := some 65) (bs 139263 21) rfl rfl (one_of HT_.out (by kernel_rfl)) (by decide) (fun K hK => ?_)
            refine goes_ Try.func21 (by kernel_rfl) rfl #[.string (((t109.extract 0 (x11_18 : Int).toNat) ++ (strOfNums y111)) ++ (t109.extract ((ji33) : Int).toNat t109.size))] (by rfl) rfl rfl qqg ?_
            with_reducible refine (smf_Parse.calls kj18 (((t109.extract 0 (x11_18 : Int).toNat) ++ (strOfNums y111)) ++ (t109.extract ((ji33) : Int).toNat t109.size)) t114 t115 t116 t119 t120 _ A37.out).mono ?_
            rintro e w49 ⟨v117, rfl, ho0, hb⟩
            refine ⟨_, rfl, ?_⟩
            have HO118 := Aside0.mk (Kd.N_lower (Kd.N_mono (ok' := fun k_ => some k_ ≠ (.slice Ao27 t105.length co27 : Value).ownBlock ∧ some k_ ≠ (v112 : Value).ownBlock ∧ k_ ≠ gb101 ∧ k_ ≠ gb108 ∧ k_ ≠ gb121) (Kd.S_N (Kd.S_bound ho0)) (fun k_ hk_ => ⟨(Kd.fresh' (Kd.N_lt (qN HO_109002.out)) k_ hk_.2.1), (Kd.fresh' (Kd.R_lt (qR HO113.out)) k_ hk_.2.1), (Kd.freshB (bq BK101.out) k_ hk_.2.1), (Kd.freshB (bq BK108.out) k_ hk_.2.1), (Kd.freshB (bq BK121.out) k_ hk_.2.1)⟩)) (below_size (qS3 GE101 GE108 GE121 HB.out)))
            replace HO_109002 := Aside0.mk (Kd.N_elder' (qN HO_109002.out) qqd hb)
            replace HO113 := Aside0.mk (Kd.R_below (qR HO113.out) hb)
            replace BK101 := Aside0.mk (blk_below (bq BK101.out) hb)
            replace BK108 := Aside0.mk (blk_below (bq BK108.out) hb)
            replace BK121 := Aside0.mk (blk_below (bq BK121.out) hb)
            replace HB := Aside0.mk (below_step (qS3 GE101 GE108 GE121 HB.out) hb)
            (try clear hb)
            (try clear hb2)
            (try clear hk)
            (try clear hi)
            (try clear ho0)
            refine hK.out _ _ trivial (fun hHeld => ?_)
            clear hK K
            refine normS (some 65) ?_
            refine pureS 13 (some 52) (bs 147455 21) ?_
            refine pureS 14 (some 66) (bs 163839 21) ?_
            refine pureS 15 (some 67) (bs 196607 21) ?_
            refine pureS 16 (some 68) (bs 262143 21) ?_
            exact norm_ qq1 (hCont (v112, v117, gb121) _ ⟨(qR HO113.out), qqj, qqw, (bq BK101.out), (bq BK108.out), (bq BK121.out), GW121.out, GE121.out, NB101_121.out, NB121_101.out, NB108_121.out, NB121_108.out, (qS3 GE101 GE108 GE121 HB.out)⟩)
          skip
          have hcv47 := own_string (P := Try.prog) Try.underlying39 Try.underlying5 Try.underlying9 (Kd.own_of_R HO113.out)
          refine value_ (w1 := ?_) (v := ?_) (by rfl) rfl ?_ ?_
          rotate_left 2
          · go_simp
            constructor
            · rfl
            rfl
          clear hcv47
          refine hK.out _ _ trivial (fun hHeld => ?_)
          clear hK K
          refine normS (some 58) ?_
          refine pureS 6 (some 59) (bs 2047 21) ?_
          refine pureS 11 (some 64) (bs 4095 21) ?_
          refine two_ (i := 12) (j := 17) (Ni := some 65) (Nj := some 12) (bs 8191 21) (bs 135167 21) rfl rfl rfl rfl (two_of HT_.out (by kernel_rfl)) (by decide) (by decide) (fun K hK => ?_) (fun K hK => ?_)
          · skip
            refine goes_ Try.func21 (by kernel_rfl) rfl #[.string (((t109.extract 0 (x11_18 : Int).toNat) ++ (strOfNums y111)) ++ (t109.extract ((ji33) : Int).toNat t109.size))] (by rfl) rfl rfl qqg ?_
            with_reducible refine (smf_Parse.calls kj18 (((t109.extract 0 (x11_18 : Int).toNat) ++ (strOfNums y111)) ++ (t109.extract ((ji33) : Int).toNat t109.size)) t114 t115 t116 t119 t120 _ A37.out).mono ?_
            rintro e w48 ⟨v117, rfl, ho0, hb⟩
            refine ⟨_, rfl, ?_⟩
            have HO118 := Aside0.mk (Kd.N_lower (Kd.N_mono (ok' := fun k_ => some k_ ≠ (.slice Ao27 t105.length co27 : Value).ownBlock ∧ some k_ ≠ (v112 : Value).ownBlock ∧ k_ ≠ gb101 ∧ k_ ≠ gb108) (Kd.S_N (Kd.S_bound ho0)) (fun k_ hk_ => ⟨(Kd.fresh' (Kd.N_lt (qN HO_109002.out)) k_ hk_.2.1), (Kd.fresh' (Kd.R_lt (qR HO113.out)) k_ hk_.2.1), (Kd.freshB (bq BK101.out) k_ hk_.2.1), (Kd.freshB (bq BK108.out) k_ hk_.2.1)⟩)) (below_size (qS2 GE101 GE108 HB.out)))
            replace HO_109002 := Aside0.mk (Kd.N_elder' (qN HO_109002.out) qqd hb)
            replace HO113 := Aside0.mk (Kd.R_below (qR HO113.out) hb)
            replace BK101 := Aside0.mk (blk_below (bq BK101.out) hb)
            replace BK108 := Aside0.mk (blk_below (bq BK108.out) hb)
            replace HB := Aside0.mk (below_step (qS2 GE101 GE108 HB.out) hb)
            (try clear hb)
            (try clear hb2)
            (try clear hk)
            (try clear hi)
            (try clear ho0)
            refine hK.out _ _ trivial (fun hHeld => ?_)
            clear hK K
            refine normS (some 65) ?_
            refine pureS 13 (some 52) (bs 16383 21) ?_
            refine pureS 14 (some 66) (bs 32767 21) ?_
            refine pureS 15 (some 67) (bs 65535 21) ?_
            refine pureS 16 (some 68) (bs 131071 21) ?_
            refine one_ (i := 17) (N := some 12) (bs 262143 21) rfl rfl (one_of HT_.out (by kernel_rfl)) (by decide) (fun K hK => ?_)
            refine box_step ?hg (N := 12) ?hd (cs := #[.int .i64 0, .int .i64 0, .slice none 0 0]) (t := 24) ?hr ?_; (case hd => rfl); (case hg => rfl); (case hr => exact qq6)
            intro gb121 hg w49 hbox hb
            replace HO_109002 := Aside0.mk (Kd.N_below (Kd.N_elderB (qN HO_109002.out) gb121 (Nat.le_of_eq hg.symm)) hb)
            replace HO113 := Aside0.mk (Kd.R_below (qR HO113.out) hb)
            replace HO118 := Aside0.mk (Kd.N_below (Kd.N_elderB (qN HO118.out) gb121 (Nat.le_of_eq hg.symm)) hb)
            have BK121 := Aside0.mk (hbox)
            have GW121 := Aside0.mk ((qqi : w.heap.size ≤ gb121))
            have GE121 := Aside0.mk ((qqi : w.heap.size ≤ gb121))
            replace HB := Aside0.mk (below_step (qS2 GE101 GE108 HB.out) hb)
            have NB101_121 := Aside0.mk ((qqb : gb101 ≠ gb121))
            have NB121_101 := Aside0.mk ((qqc : gb121 ≠ gb101))
            replace BK101 := Aside0.mk (blk_below (bq BK101.out) hb)
            have NB108_121 := Aside0.mk ((qqC : gb108 ≠ gb121))
            have NB121_108 := Aside0.mk ((qqD : gb121 ≠ gb108))
            replace BK108 := Aside0.mk (blk_below (bq BK108.out) hb)
            clear hb hbox hg
            refine hK.out _ _ trivial (fun hHeld => ?_)
            clear hK K
            refine normS (some 12) ?_
            exact norm_ qq1 (hCont (v112, v117, gb121) _ ⟨(qR HO113.out), qq1g, qq1e, (bq BK101.out), (bq BK108.out), (bq BK121.out), GW121.out, GE121.out, NB101_121.out, NB121_101.out, NB108_121.out, NB121_108.out, (qS3 GE101 GE108 GE121 HB.out)⟩)
          skip
          refine box_step ?hg (N := 12) ?hd (cs := #[.int .i64 0, .int .i64 0, .slice none 0 0]) (t := 24) ?hr ?_; (case hd => rfl); (case hg => rfl); (case hr => exact qq6)
          intro gb121 hg w48 hbox hb
          replace HO_109002 := Aside0.mk (Kd.N_below (Kd.N_elderB (qN HO_109002.out) gb121 (Nat.le_of_eq hg.symm)) hb)
          replace HO113 := Aside0.mk (Kd.R_below (qR HO113.out) hb)
          have BK121 := Aside0.mk (hbox)
          have GW121 := Aside0.mk ((qqi : w.heap.size ≤ gb121))
          have GE121 := Aside0.mk ((qqi : w.heap.size ≤ gb121))
          replace HB := Aside0.mk (below_step (qS2 GE101 GE108 HB.out) hb)
          have NB101_121 := Aside0.mk ((qqb : gb101 ≠ gb121))
          have NB121_101 := Aside0.mk ((qqc : gb121 ≠ gb101))
          replace BK101 := Aside0.mk (blk_below (bq BK101.out) hb)
          have NB108_121 := Aside0.mk ((qqC : gb108 ≠ gb121))
          have NB121_108 := Aside0.mk ((qqD : gb121 ≠ gb108))
          replace BK108 := Aside0.mk (blk_below (bq BK108.out) hb)
          clear hb hbox hg
          refine hK.out _ _ trivial (fun hHeld => ?_)
          clear hK K
          refine normS (some 12) ?_
          refine one_ (i := 12) (N := some 65) (bs 139263 21) rfl rfl (one_of HT_.out (by kernel_rfl)) (by decide) (fun K hK => ?_)
          refine goes_ Try.func21 (by kernel_rfl) rfl #[.string (((t109.extract 0 (x11_18 : Int).toNat) ++ (strOfNums y111)) ++ (t109.extract ((ji33) : Int).toNat t109.size))] (by rfl) rfl rfl qqg ?_
          with_reducible refine (smf_Parse.calls kj18 (((t109.extract 0 (x11_18 : Int).toNat) ++ (strOfNums y111)) ++ (t109.extract ((ji33) : Int).toNat t109.size)) t114 t115 t116 t119 t120 _ A37.out).mono ?_
          rintro e w49 ⟨v117, rfl, ho0, hb⟩
          refine ⟨_, rfl, ?_⟩
          have HO118 := Aside0.mk (Kd.N_lower (Kd.N_mono (ok' := fun k_ => some k_ ≠ (.slice Ao27 t105.length co27 : Value).ownBlock ∧ some k_ ≠ (v112 : Value).ownBlock ∧ k_ ≠ gb101 ∧ k_ ≠ gb108 ∧ k_ ≠ gb121) (Kd.S_N (Kd.S_bound ho0)) (fun k_ hk_ => ⟨(Kd.fresh' (Kd.N_lt (qN HO_109002.out)) k_ hk_.2.1), (Kd.fresh' (Kd.R_lt (qR HO113.out)) k_ hk_.2.1), (Kd.freshB (bq BK101.out) k_ hk_.2.1), (Kd.freshB (bq BK108.out) k_ hk_.2.1), (Kd.freshB (bq BK121.out) k_ hk_.2.1)⟩)) (below_size (qS3 GE101 GE108 GE121 HB.out)))
          replace HO_109002 := Aside0.mk (Kd.N_elder' (qN HO_109002.out) qqd hb)
          replace HO113 := Aside0.mk (Kd.R_below (qR HO113.out) hb)
          replace BK101 := Aside0.mk (blk_below (bq BK101.out) hb)
          replace BK108 := Aside0.mk (blk_below (bq BK108.out) hb)
          replace BK121 := Aside0.mk (blk_below (bq BK121.out) hb)
          replace HB := Aside0.mk (below_step (qS3 GE101 GE108 GE121 HB.out) hb)
          (try clear hb)
          (try clear hb2)
          (try clear hk)
          (try clear hi)
          (try clear ho0)
          refine hK.out _ _ trivial (fun hHeld => ?_)
          clear hK K
          refine normS (some 65) ?_
          refine pureS 13 (some 52) (bs 147455 21) ?_
          refine pureS 14 (some 66) (bs 163839 21) ?_
          refine pureS 15 (some 67) (bs 196607 21) ?_
          refine pureS 16 (some 68) (bs 262143 21) ?_
          exact norm_ qq1 (hCont (v112, v117, gb121) _ ⟨(qR HO113.out), qqj, qqw, (bq BK101.out), (bq BK108.out), (bq BK121.out), GW121.out, GE121.out, NB101_121.out, NB121_101.out, NB108_121.out, NB121_108.out, (qS3 GE101 GE108 GE121 HB.out)⟩)
        rintro ⟨v112, v117, gb121⟩ w50 ⟨h0_, h1_, h2_, h3_, h4_, h5_, h6_, h7_, h8_, h9_, h10_, h11_, h12_⟩
        have n0_ : Aside0 (Kd.R (Kd.int .u8) 5 w50 w.heap.size (fun _ => True) v112 y111) := ⟨h0_⟩
        have n1_ : Aside0 (Kd.N (Kd.slice 28 k28) 30 w50 w.heap.size (fun k_ => some k_ ≠ (v112 : Value).ownBlock ∧ some k_ ≠ (.slice Ao27 t105.length co27 : Value).ownBlock ∧ k_ ≠ gb101 ∧ k_ ≠ gb108 ∧ k_ ≠ gb121) v117 t116) := ⟨h1_⟩
        have n2_ : Aside0 (Kd.N (Kd.slice 28 k28) 30 w50 w.heap.size (fun k_ => some k_ ≠ (v112 : Value).ownBlock ∧ some k_ ≠ (v117 : Value).ownBlock ∧ k_ ≠ gb101 ∧ k_ ≠ gb108 ∧ k_ ≠ gb121) (.slice Ao27 t105.length co27) t105) := ⟨h2_⟩
        have n3_ : Aside0 (w50.heap[gb101]? = some (.cells #[.int .i64 a0_0, .int .i64 a0_1, .slice A0_2 l0_2.length c0_2] 24 (0, 0))) := ⟨h3_⟩
        have n4_ : Aside0 (w50.heap[gb108]? = some (.cells #[.int .i64 t103, .int .i64 t104, .slice Ao27 t105.length co27] 24 (0, 0))) := ⟨h4_⟩
        have n5_ : Aside0 (w50.heap[gb121]? = some (.cells #[.int .i64 0, .int .i64 0, .slice none 0 0] 24 (0, 0))) := ⟨h5_⟩
        have n6_ : Aside0 (w.heap.size ≤ gb121) := ⟨h6_⟩
        have n7_ : Aside0 (w.heap.size ≤ gb121) := ⟨h7_⟩
        have n8_ : Aside0 (gb101 ≠ gb121) := ⟨h8_⟩
        have n9_ : Aside0 (gb121 ≠ gb101) := ⟨h9_⟩
        have n10_ : Aside0 (gb108 ≠ gb121) := ⟨h10_⟩
        have n11_ : Aside0 (gb121 ≠ gb108) := ⟨h11_⟩
        have n12_ : Aside0 (Below w.heap.size w w50) := ⟨h12_⟩
        clear HO_109002
        clear BK101
        clear BK108
        clear HB
        clear h0_ h1_ h2_ h3_ h4_ h5_ h6_ h7_ h8_ h9_ h10_ h11_ h12_
        have HO113 := n0_
        have HO118 := n1_
        have HO_109002 := n2_
        have BK101 := n3_
        have BK108 := n4_
        have BK121 := n5_
        have GW121 := n6_
        have GE121 := n7_
        have NB101_121 := n8_
        have NB121_101 := n9_
        have NB108_121 := n10_
        have NB121_108 := n11_
        have HB := n12_
        clear n0_ n1_ n2_ n3_ n4_ n5_ n6_ n7_ n8_ n9_ n10_ n11_ n12_
        have hHeld := trivial
        obtain ⟨Ao53, co53, eo53⟩ := Kd.N_slice HO118.out
        (first | subst eo53 | (injection eo53 with f1_ f2_ f3_; have f4_ := f1_.symm; have f5_ := f3_.symm; clear f1_ f2_ f3_; subst f4_; subst f5_))
        refine norm_ (a' := ?_) ?_ ?_
        rotate_left
        · simp only [putAll, Act.put, List.setIfInBounds_toArray, List.set_cons_zero, List.set_cons_succ]
          rfl
        refine one_ (i := 18) (N := none) (bs 524287 21) rfl rfl (one_of HT_.out (by kernel_rfl)) (by decide) (fun K hK => ?_)
        have hs51 : w50.cell? ⟨gb121, 0, none⟩ = some (.int .i64 0) := (blk_cell BK121.out 0).trans rfl
        have hfs51 := blk_frozen BK121.out 0
        have hns51_0 := NB101_121.out
        have hns51_1 := NB108_121.out
        have hms51_0 := NB121_101.out
        have hms51_1 := NB121_108.out
        have hs52 : w50.cell? ⟨gb121, 1, none⟩ = some (.int .i64 0) := (blk_cell BK121.out 1).trans rfl
        have hfs52 := blk_frozen BK121.out 1
        have hns52_0 := NB101_121.out
        have hns52_1 := NB108_121.out
        have hms52_0 := NB121_101.out
        have hms52_1 := NB121_108.out
        have hs54 : w50.cell? ⟨gb121, 2, none⟩ = some (.slice none 0 0) := (blk_cell BK121.out 2).trans rfl
        have hfs54 := blk_frozen BK121.out 2
        have hns54_0 := NB101_121.out
        have hns54_1 := NB108_121.out
        have hms54_0 := NB121_101.out
        have hms54_1 := NB121_108.out
        refine skip_ (w1 := ?_) (by rfl) rfl ?_ ?_
        rotate_left
        · go_simp
          rfl
        refine hK.out _ _ trivial (fun hHeld => ?_)
        clear hK K
        refine pureS 19 (some 13) (bs 1048575 21) ?_
        refine pureS 20 (some 14) (bs 2097151 21) ?_
        refine done_ (done_of HT_.out (by kernel_rfl)) ?_
        have p39 : 0 ≤ (x11_18 : Int) := of_decide_eq_true qq4
        have q39 : x11_18 < (t109.size : Int) := of_decide_eq_true qq4
        have hx39 := bt_at t109 x11_18
        replace p39 := eq_true p39
        replace q39 := eq_true q39
        have hnb55 := NB108_101.out
        have hnc55 := NB101_108.out
        have hnb56 := NB108_121.out
        have hnc56 := NB121_108.out
        obtain ⟨hcz57_0, hcz57_1, hcz57_2, hfz57_0, hfz57_1, hfz57_2⟩ := blk3 BK108.out
        have hnb58 := NB121_101.out
        have hnc58 := NB101_121.out
        obtain ⟨hcz59_0, hcz59_1, hcz59_2, hfz59_0, hfz59_1, hfz59_2⟩ := blk3 BK121.out
        try go_wp2_with (first | (go_at_call 14; (with_reducible refine (smf_Same.calls kj18 t103 t104 _ _ t105 t114 t115 _ _ t116 t122 _ ?side1 ?side2 ?side3 ?side4 A43.out).mono ?_); (case side1 => refine (Kd.N_reads' (e := 30) (base := w.heap.size) (ok := fun k_ => (some k_ ≠ (v112 : Value).ownBlock ∧ (some k_ ≠ (.slice Ao53 t116.length co53 : Value).ownBlock ∧ (k_ ≠ gb101 ∧ (k_ ≠ gb108 ∧ k_ ≠ gb121))))) (n := t105.length) (c := co27) ?_).2.2; exact qqJ); (case side2 => exact (Kd.N_reads' HO_109002.out).2.1); (case side3 => refine (Kd.N_reads' (e := 30) (base := w.heap.size) (ok := fun k_ => (some k_ ≠ (v112 : Value).ownBlock ∧ (some k_ ≠ (.slice Ao27 t105.length co27 : Value).ownBlock ∧ (k_ ≠ gb101 ∧ (k_ ≠ gb108 ∧ k_ ≠ gb121))))) (n := t116.length) (c := co53) ?_).2.2; exact qqM); (case side4 => exact (Kd.N_reads' HO118.out).2.1); rintro e w60 ⟨rfl, hb⟩; replace HO_109002 := Aside0.mk (Kd.N_below qqJ hb); replace HO113 := Aside0.mk (Kd.R_below (by (with_reducible repeat (first | apply Kd.R_alloc | apply Kd.R_drewN | apply Kd.R_drew)); exact (Kd.R_mono (Kd.R_far (p := ⟨gb121, 2, none⟩) (Kd.R_far (p := ⟨gb121, 1, none⟩) (Kd.R_far (p := ⟨gb121, 0, none⟩) (Kd.R_types HO113.out BK121.out (by decide)) (fun _ hk => hk.2) (.int .i64 t114)) (fun _ hk => hk.2) (.int .i64 t115)) (fun _ hk => hk.2) (.slice Ao53 t116.length co53)) (fun _ h_ => h_.1))) hb); replace HO118 := Aside0.mk (Kd.N_below qqM hb); replace BK101 := Aside0.mk (blk_below (g := gb101) (o := .cells #[.int .i64 a0_0, .int .i64 a0_1, .slice A0_2 l0_2.length c0_2] 24 (0, 0)) (by refine bq ?_; refine blk_far ?_ NB101_121.out _; refine bq ?_; refine blk_far ?_ NB101_121.out _; refine bq ?_; refine blk_far ?_ NB101_121.out _; exact bq BK101.out) hb); replace BK108 := Aside0.mk (blk_below (g := gb108) (o := .cells #[.int .i64 t103, .int .i64 t104, .slice Ao27 t105.length co27] 24 (0, 0)) (by refine bq ?_; refine blk_far ?_ NB108_121.out _; refine bq ?_; refine blk_far ?_ NB108_121.out _; refine bq ?_; refine blk_far ?_ NB108_121.out _; exact bq BK108.out) hb); replace BK121 := Aside0.mk (blk_below (g := gb121) (o := .cells #[.int .i64 t114, .int .i64 t115, .slice Ao53 t116.length co53] 24 (0, 0)) (by refine bq ?_; refine blk_put (cs := #[.int .i64 t114, .int .i64 t115, .slice none 0 0]) ?_ 2 _ rfl; refine bq ?_; refine blk_put (cs := #[.int .i64 t114, .int .i64 0, .slice none 0 0]) ?_ 1 _ rfl; refine bq ?_; refine blk_put (cs := #[.int .i64 0, .int .i64 0, .slice none 0 0]) ?_ 0 _ rfl; exact bq BK121.out) hb); replace HB := Aside0.mk (below_step (qS3 GE101 GE108 GE121 HB.out) hb); (try clear hb); (try clear hb2); (try clear hk); (try clear hi)))
        go_ret
        exact ⟨qq1h, qS3 GE101 GE108 GE121 HB.out⟩
      rw [if_neg c40] at H
      have c40b0 : (a2 == (bt t109 x11_18)) = false := beq_eq_false_iff_ne.mpr c40
      have c40b1 : (a2 != (bt t109 x11_18)) = true := bne_iff_ne.mpr c40
      by_cases c61 : 0 ≤ 9
      rotate_left
      · rw [if_neg c61] at H
        exact absurd H (by simp)
      rw [if_pos c61] at H
      have c61b0 := eq_true c61
      have c61b1 : decide (0 ≤ 9) = true := decide_eq_true c61
      clear c61
      by_cases c62 : 9 ≤ (t109.size : Int)
      rotate_left
      · rw [if_neg c62] at H
        exact absurd H (by simp)
      rw [if_pos c62] at H
      have c62b0 := eq_true c62
      have c62n0 : (9 ≤ t109.size) = True := eq_true (by have f_ := of_eq_true c62b0; omega)
      have c62b1 : decide (9 ≤ (t109.size : Int)) = true := decide_eq_true c62
      clear c62
      obtain ⟨y123, hy123⟩ : ∃ y_ : List Int, y_ = (([(2 + (Int.tmod a2 254)) % 256] : List Int)) := ⟨_, rfl⟩
      replace H : (if (t109.extract 0 9).size + (strOfNums y123).size ≤ 9223372036854775807 then (if 10 ≤ (t109.size : Int) then (if ((t109.extract 0 9) ++ (strOfNums y123)).size + (t109.extract 10 t109.size).size ≤ 9223372036854775807 then ((smf_Parse.f kj18 (((t109.extract 0 9) ++ (strOfNums y123)) ++ (t109.extract 10 t109.size))).bind fun bt126 => (if 0 ≤ 11 then (if 11 ≤ (t109.size : Int) then (if (t109.extract 0 11).size + 1 ≤ 9223372036854775807 then (if 12 ≤ (t109.size : Int) then (if ((t109.extract 0 11) ++ (⟨#[0]⟩ : ByteArray)).size + (t109.extract 12 t109.size).size ≤ 9223372036854775807 then ((smf_Parse.f kj18 (((t109.extract 0 11) ++ (⟨#[0]⟩ : ByteArray)) ++ (t109.extract 12 t109.size))).bind fun bt134 => ((some (([(17 + (Int.tmod a2 239)) % 256] : List Int) : List Int)).bind fun y142 => (if (t109.extract 0 11).size + (strOfNums y142).size ≤ 9223372036854775807 then (if ((t109.extract 0 11) ++ (strOfNums y142)).size + (t109.extract 12 t109.size).size ≤ 9223372036854775807 then ((smf_Parse.f kj18 (((t109.extract 0 11) ++ (strOfNums y142)) ++ (t109.extract 12 t109.size))).bind fun bt145 => (if 0 ≤ 12 then ((some (([(128 + (Int.tmod a2 128)) % 256] : List Int) : List Int)).bind fun y153 => (if (t109.extract 0 12).size + (strOfNums y153).size ≤ 9223372036854775807 then (if 13 ≤ (t109.size : Int) then (if ((t109.extract 0 12) ++ (strOfNums y153)).size + (t109.extract 13 t109.size).size ≤ 9223372036854775807 then ((smf_Parse.f kj18 (((t109.extract 0 12) ++ (strOfNums y153)) ++ (t109.extract 13 t109.size))).bind fun bt156 => (if (t109.extract 0 12).size + 2 ≤ 9223372036854775807 then (if 14 ≤ (t109.size : Int) then (if ((t109.extract 0 12) ++ (⟨#[0, 0]⟩ : ByteArray)).size + (t109.extract 14 t109.size).size ≤ 9223372036854775807 then ((smf_Parse.f kj18 (((t109.extract 0 12) ++ (⟨#[0, 0]⟩ : ByteArray)) ++ (t109.extract 14 t109.size))).bind fun bt164 => (if true = true then (if t120 = 160 then (if t119 = x11_18 then (if bt126.2.2.2.2 = 160 then (if bt126.2.2.2.1 = 9 then (if bt134.2.2.2.2 = 160 then (if bt134.2.2.2.1 = 11 then (if bt145.2.2.2.2 = 160 then (if bt145.2.2.2.1 = 11 then (if bt156.2.2.2.2 = 160 then (if bt156.2.2.2.1 = 12 then (if bt164.2.2.2.2 = 160 then (some (bt164.2.2.2.1 == 13)) else (none)) else (none)) else (none)) else (none)) else (none)) else (none)) else (none)) else (none)) else (none)) else (none)) else (none)) else (none))) else (none)) else (none)) else (none))) else (none)) else (none)) else (none))) else (none))) else (none)) else (none)))) else (none)) else (none)) else (none)) else (none)) else (none))) else (none)) else (none)) else (none)) = some r := by first | (rw [hy123]; with_reducible exact H) | (have H2_ := (Option.bind_some _ _).symm.trans H; rw [hy123]; with_reducible exact H2_) | (have H2_ := (Option.bind_some _ _).symm.trans H; with_reducible exact H2_) | with_reducible exact H | (rw [hy123]; exact H) | exact H
      have Ny123 := Aside0.mk hy123
      clear hy123
      by_cases c63 : (t109.extract 0 9).size + (strOfNums y123).size ≤ 9223372036854775807
      rotate_left
      · rw [if_neg c63] at H
        exact absurd H (by simp)
      rw [if_pos c63] at H
      have c63b0 := eq_true c63
      have c63b1 : decide ((t109.extract 0 9).size + (strOfNums y123).size ≤ 9223372036854775807) = true := decide_eq_true c63
      try have c63b2 : (9223372036854775807 < (t109.extract 0 9).size + (strOfNums y123).size) = False := eq_false (Nat.not_lt.2 c63)
      have c63b3 : (9223372036854775807 < 9 + (strOfNums y123).size) = False := eq_false (by have e_ := c63; (try simp only [ByteArray.size_append, ByteArray.size_extract, Nat.sub_zero] at e_); have f0_ := of_eq_true c30b0; have f1_ := of_eq_true c31b0; have f2_ := of_eq_true c34b0; have f3_ := of_eq_true c35b0; have f4_ := of_eq_true c61b0; have f5_ := of_eq_true c62b0; omega)
      by_cases c64 : 10 ≤ (t109.size : Int)
      rotate_left
      · rw [if_neg c64] at H
        exact absurd H (by simp)
      rw [if_pos c64] at H
      have c64b0 := eq_true c64
      have c64n0 : (10 ≤ t109.size) = True := eq_true (by have f_ := of_eq_true c64b0; omega)
      have c64b1 : decide (10 ≤ (t109.size : Int)) = true := decide_eq_true c64
      clear c64
      by_cases c65 : ((t109.extract 0 9) ++ (strOfNums y123)).size + (t109.extract 10 t109.size).size ≤ 9223372036854775807
      rotate_left
      · rw [if_neg c65] at H
        exact absurd H (by simp)
      rw [if_pos c65] at H
      have c65b0 := eq_true c65
      have c65b1 : decide (((t109.extract 0 9) ++ (strOfNums y123)).size + (t109.extract 10 t109.size).size ≤ 9223372036854775807) = true := decide_eq_true c65
      try have c65b2 : (9223372036854775807 < ((t109.extract 0 9) ++ (strOfNums y123)).size + (t109.extract 10 t109.size).size) = False := eq_false (Nat.not_lt.2 c65)
      have c65b3 : (9223372036854775807 < (9 + (strOfNums y123).size) + (t109.size - 10)) = False := eq_false (by have e_ := c65; (try simp only [ByteArray.size_append, ByteArray.size_extract, Nat.sub_zero] at e_); have f0_ := of_eq_true c30b0; have f1_ := of_eq_true c31b0; have f2_ := of_eq_true c34b0; have f3_ := of_eq_true c35b0; have f4_ := of_eq_true c61b0; have f5_ := of_eq_true c62b0; have f6_ := of_eq_true c64b0; omega)
      replace H := Option.bind_eq_some_iff.mp H
      obtain ⟨⟨t126, t127, t128, t131, t132⟩, A660, H⟩ := H
      try dsimp -simprocs only at H
      have A66 := Aside0.mk A660
      clear A660
      by_cases c67 : 0 ≤ 11
      rotate_left
      · rw [if_neg c67] at H
        exact absurd H (by simp)
      rw [if_pos c67] at H
      have c67b0 := eq_true c67
      have c67b1 : decide (0 ≤ 11) = true := decide_eq_true c67
      clear c67
      by_cases c68 : 11 ≤ (t109.size : Int)
      rotate_left
      · rw [if_neg c68] at H
        exact absurd H (by simp)
      rw [if_pos c68] at H
      have c68b0 := eq_true c68
      have c68n0 : (11 ≤ t109.size) = True := eq_true (by have f_ := of_eq_true c68b0; omega)
      have c68b1 : decide (11 ≤ (t109.size : Int)) = true := decide_eq_true c68
      clear c68
      by_cases c69 : (t109.extract 0 11).size + 1 ≤ 9223372036854775807
      rotate_left
      · rw [if_neg c69] at H
        exact absurd H (by simp)
      rw [if_pos c69] at H
      have c69b0 := eq_true c69
      have c69b1 : decide ((t109.extract 0 11).size + 1 ≤ 9223372036854775807) = true := decide_eq_true c69
      try have c69b2 : (9223372036854775807 < (t109.extract 0 11).size + 1) = False := eq_false (Nat.not_lt.2 c69)
      have c69b3 : (9223372036854775807 < 11 + 1) = False := eq_false (by have e_ := c69; (try simp only [ByteArray.size_append, ByteArray.size_extract, Nat.sub_zero] at e_); have f0_ := of_eq_true c30b0; have f1_ := of_eq_true c31b0; have f2_ := of_eq_true c34b0; have f3_ := of_eq_true c35b0; have f4_ := of_eq_true c61b0; have f5_ := of_eq_true c62b0; have f6_ := of_eq_true c64b0; have f7_ := of_eq_true c67b0; have f8_ := of_eq_true c68b0; omega)
      by_cases c70 : 12 ≤ (t109.size : Int)
      rotate_left
      · rw [if_neg c70] at H
        exact absurd H (by simp)
      rw [if_pos c70] at H
      have c70b0 := eq_true c70
      have c70n0 : (12 ≤ t109.size) = True := eq_true (by have f_ := of_eq_true c70b0; omega)
      have c70b1 : decide (12 ≤ (t109.size : Int)) = true := decide_eq_true c70
      clear c70
      by_cases c71 : ((t109.extract 0 11) ++ (⟨#[0]⟩ : ByteArray)).size + (t109.extract 12 t109.size).size ≤ 9223372036854775807
      rotate_left
      · rw [if_neg c71] at H
        exact absurd H (by simp)
      rw [if_pos c71] at H
      have c71b0 := eq_true c71
      have c71b1 : decide (((t109.extract 0 11) ++ (⟨#[0]⟩ : ByteArray)).size + (t109.extract 12 t109.size).size ≤ 9223372036854775807) = true := decide_eq_true c71
      try have c71b2 : (9223372036854775807 < ((t109.extract 0 11) ++ (⟨#[0]⟩ : ByteArray)).size + (t109.extract 12 t109.size).size) = False := eq_false (Nat.not_lt.2 c71)
      have c71b3 : (9223372036854775807 < (11 + 1) + (t109.size - 12)) = False := eq_false qqF
      have c71b4 : (9223372036854775807 < t109.size) = False := eq_false qqF
      replace H := Option.bind_eq_some_iff.mp H
      obtain ⟨⟨t134, t135, t136, t139, t140⟩, A720, H⟩ := H
      try dsimp -simprocs only at H
      have A72 := Aside0.mk A720
      clear A720
      have c73b0 := eq_true (of_decide_eq_true qq4 : 0 ≤ 11)
      have c74b0 := eq_true (of_decide_eq_true qq4 : 11 ≤ (t109.size : Int))
      obtain ⟨y142, hy142⟩ : ∃ y_ : List Int, y_ = (([(17 + (Int.tmod a2 239)) % 256] : List Int)) := ⟨_, rfl⟩
      replace H : (if (t109.extract 0 11).size + (strOfNums y142).size ≤ 9223372036854775807 then (if ((t109.extract 0 11) ++ (strOfNums y142)).size + (t109.extract 12 t109.size).size ≤ 9223372036854775807 then ((smf_Parse.f kj18 (((t109.extract 0 11) ++ (strOfNums y142)) ++ (t109.extract 12 t109.size))).bind fun bt145 => (if 0 ≤ 12 then ((some (([(128 + (Int.tmod a2 128)) % 256] : List Int) : List Int)).bind fun y153 => (if (t109.extract 0 12).size + (strOfNums y153).size ≤ 9223372036854775807 then (if 13 ≤ (t109.size : Int) then (if ((t109.extract 0 12) ++ (strOfNums y153)).size + (t109.extract 13 t109.size).size ≤ 9223372036854775807 then ((smf_Parse.f kj18 (((t109.extract 0 12) ++ (strOfNums y153)) ++ (t109.extract 13 t109.size))).bind fun bt156 => (if (t109.extract 0 12).size + 2 ≤ 9223372036854775807 then (if 14 ≤ (t109.size : Int) then (if ((t109.extract 0 12) ++ (⟨#[0, 0]⟩ : ByteArray)).size + (t109.extract 14 t109.size).size ≤ 9223372036854775807 then ((smf_Parse.f kj18 (((t109.extract 0 12) ++ (⟨#[0, 0]⟩ : ByteArray)) ++ (t109.extract 14 t109.size))).bind fun bt164 => (if true = true then (if t120 = 160 then (if t119 = x11_18 then (if t132 = 160 then (if t131 = 9 then (if t140 = 160 then (if t139 = 11 then (if bt145.2.2.2.2 = 160 then (if bt145.2.2.2.1 = 11 then (if bt156.2.2.2.2 = 160 then (if bt156.2.2.2.1 = 12 then (if bt164.2.2.2.2 = 160 then (some (bt164.2.2.2.1 == 13)) else (none)) else (none)) else (none)) else (none)) else (none)) else (none)) else (none)) else (none)) else (none)) else (none)) else (none)) else (none))) else (none)) else (none)) else (none))) else (none)) else (none)) else (none))) else (none))) else (none)) else (none)) = some r := by first | (rw [hy142]; with_reducible exact H) | (have H2_ := (Option.bind_some _ _).symm.trans H; rw [hy142]; with_reducible exact H2_) | (have H2_ := (Option.bind_some _ _).symm.trans H; with_reducible exact H2_) | with_reducible exact H | (rw [hy142]; exact H) | exact H
      have Ny142 := Aside0.mk hy142
      clear hy142
      by_cases c75 : (t109.extract 0 11).size + (strOfNums y142).size ≤ 9223372036854775807
      rotate_left
      · rw [if_neg c75] at H
        exact absurd H (by simp)
      rw [if_pos c75] at H
      have c75b0 := eq_true c75
      have c75b1 : decide ((t109.extract 0 11).size + (strOfNums y142).size ≤ 9223372036854775807) = true := decide_eq_true c75
      try have c75b2 : (9223372036854775807 < (t109.extract 0 11).size + (strOfNums y142).size) = False := eq_false (Nat.not_lt.2 c75)
      have c75b3 : (9223372036854775807 < 11 + (strOfNums y142).size) = False := eq_false (by have e_ := c75; (try simp only [ByteArray.size_append, ByteArray.size_extract, Nat.sub_zero] at e_); have f0_ := of_eq_true c30b0; have f1_ := of_eq_true c31b0; have f2_ := of_eq_true c34b0; have f3_ := of_eq_true c35b0; have f4_ := of_eq_true c61b0; have f5_ := of_eq_true c62b0; have f6_ := of_eq_true c64b0; have f7_ := of_eq_true c67b0; have f8_ := of_eq_true c68b0; have f9_ := of_eq_true c70b0; omega)
      have c76b0 := eq_true (of_decide_eq_true qq4 : 12 ≤ (t109.size : Int))
      by_cases c77 : ((t109.extract 0 11) ++ (strOfNums y142)).size + (t109.extract 12 t109.size).size ≤ 9223372036854775807
      rotate_left
      · rw [if_neg c77] at H
        exact absurd H (by simp)
      rw [if_pos c77] at H
      have c77b0 := eq_true c77
      have c77b1 : decide (((t109.extract 0 11) ++ (strOfNums y142)).size + (t109.extract 12 t109.size).size ≤ 9223372036854775807) = true := decide_eq_true c77
      try have c77b2 : (9223372036854775807 < ((t109.extract 0 11) ++ (strOfNums y142)).size + (t109.extract 12 t109.size).size) = False := eq_false (Nat.not_lt.2 c77)
      have c77b3 : (9223372036854775807 < (11 + (strOfNums y142).size) + (t109.size - 12)) = False := eq_false (by have e_ := c77; (try simp only [ByteArray.size_append, ByteArray.size_extract, Nat.sub_zero] at e_); have f0_ := of_eq_true c30b0; have f1_ := of_eq_true c31b0; have f2_ := of_eq_true c34b0; have f3_ := of_eq_true c35b0; have f4_ := of_eq_true c61b0; have f5_ := of_eq_true c62b0; have f6_ := of_eq_true c64b0; have f7_ := of_eq_true c67b0; have f8_ := of_eq_true c68b0; have f9_ := of_eq_true c70b0; omega)
      replace H := Option.bind_eq_some_iff.mp H
      obtain ⟨⟨t145, t146, t147, t150, t151⟩, A780, H⟩ := H
      try dsimp -simprocs only at H
      have A78 := Aside0.mk A780
      clear A780
      by_cases c79 : 0 ≤ 12
      rotate_left
      · rw [if_neg c79] at H
        exact absurd H (by simp)
      rw [if_pos c79] at H
      have c79b0 := eq_true c79
      have c79b1 : decide (0 ≤ 12) = true := decide_eq_true c79
      clear c79
      have c80b0 := eq_true (of_decide_eq_true qq4 : 12 ≤ (t109.size : Int))
      obtain ⟨y153, hy153⟩ : ∃ y_ : List Int, y_ = (([(128 + (Int.tmod a2 128)) % 256] : List Int)) := ⟨_, rfl⟩
      replace H : (if (t109.extract 0 12).size + (strOfNums y153).size ≤ 9223372036854775807 then (if 13 ≤ (t109.size : Int) then (if ((t109.extract 0 12) ++ (strOfNums y153)).size + (t109.extract 13 t109.size).size ≤ 9223372036854775807 then ((smf_Parse.f kj18 (((t109.extract 0 12) ++ (strOfNums y153)) ++ (t109.extract 13 t109.size))).bind fun bt156 => (if (t109.extract 0 12).size + 2 ≤ 9223372036854775807 then (if 14 ≤ (t109.size : Int) then (if ((t109.extract 0 12) ++ (⟨#[0, 0]⟩ : ByteArray)).size + (t109.extract 14 t109.size).size ≤ 9223372036854775807 then ((smf_Parse.f kj18 (((t109.extract 0 12) ++ (⟨#[0, 0]⟩ : ByteArray)) ++ (t109.extract 14 t109.size))).bind fun bt164 => (if true = true then (if t120 = 160 then (if t119 = x11_18 then (if t132 = 160 then (if t131 = 9 then (if t140 = 160 then (if t139 = 11 then (if t151 = 160 then (if t150 = 11 then (if bt156.2.2.2.2 = 160 then (if bt156.2.2.2.1 = 12 then (if bt164.2.2.2.2 = 160 then (some (bt164.2.2.2.1 == 13)) else (none)) else (none)) else (none)) else (none)) else (none)) else (none)) else (none)) else (none)) else (none)) else (none)) else (none)) else (none))) else (none)) else (none)) else (none))) else (none)) else (none)) else (none)) = some r := by first | (rw [hy153]; with_reducible exact H) | (have H2_ := (Option.bind_some _ _).symm.trans H; rw [hy153]; with_reducible exact H2_) | (have H2_ := (Option.bind_some _ _).symm.trans H; with_reducible exact H2_) | with_reducible exact H | (rw [hy153]; exact H) | exact H
      have Ny153 := Aside0.mk hy153
      clear hy153
      by_cases c81 : (t109.extract 0 12).size + (strOfNums y153).size ≤ 9223372036854775807
      rotate_left
      · rw [if_neg c81] at H
        exact absurd H (by simp)
      rw [if_pos c81] at H
      have c81b0 := eq_true c81
      have c81b1 : decide ((t109.extract 0 12).size + (strOfNums y153).size ≤ 9223372036854775807) = true := decide_eq_true c81
      try have c81b2 : (9223372036854775807 < (t109.extract 0 12).size + (strOfNums y153).size) = False := eq_false (Nat.not_lt.2 c81)
      have c81b3 : (9223372036854775807 < 12 + (strOfNums y153).size) = False := eq_false (by have e_ := c81; (try simp only [ByteArray.size_append, ByteArray.size_extract, Nat.sub_zero] at e_); have f0_ := of_eq_true c30b0; have f1_ := of_eq_true c31b0; have f2_ := of_eq_true c34b0; have f3_ := of_eq_true c35b0; have f4_ := of_eq_true c61b0; have f5_ := of_eq_true c62b0; have f6_ := of_eq_true c64b0; have f7_ := of_eq_true c67b0; have f8_ := of_eq_true c68b0; have f9_ := of_eq_true c70b0; have f10_ := of_eq_true c79b0; omega)
      by_cases c82 : 13 ≤ (t109.size : Int)
      rotate_left
      · rw [if_neg c82] at H
        exact absurd H (by simp)
      rw [if_pos c82] at H
      have c82b0 := eq_true c82
      have c82n0 : (13 ≤ t109.size) = True := eq_true (by have f_ := of_eq_true c82b0; omega)
      have c82b1 : decide (13 ≤ (t109.size : Int)) = true := decide_eq_true c82
      clear c82
      by_cases c83 : ((t109.extract 0 12) ++ (strOfNums y153)).size + (t109.extract 13 t109.size).size ≤ 9223372036854775807
      rotate_left
      · rw [if_neg c83] at H
        exact absurd H (by simp)
      rw [if_pos c83] at H
      have c83b0 := eq_true c83
      have c83b1 : decide (((t109.extract 0 12) ++ (strOfNums y153)).size + (t109.extract 13 t109.size).size ≤ 9223372036854775807) = true := decide_eq_true c83
      try have c83b2 : (9223372036854775807 < ((t109.extract 0 12) ++ (strOfNums y153)).size + (t109.extract 13 t109.size).size) = False := eq_false (Nat.not_lt.2 c83)
      have c83b3 : (9223372036854775807 < (12 + (strOfNums y153).size) + (t109.size - 13)) = False := eq_false (by have e_ := c83; (try simp only [ByteArray.size_append, ByteArray.size_extract, Nat.sub_zero] at e_); have f0_ := of_eq_true c30b0; have f1_ := of_eq_true c31b0; have f2_ := of_eq_true c34b0; have f3_ := of_eq_true c35b0; have f4_ := of_eq_true c61b0; have f5_ := of_eq_true c62b0; have f6_ := of_eq_true c64b0; have f7_ := of_eq_true c67b0; have f8_ := of_eq_true c68b0; have f9_ := of_eq_true c70b0; have f10_ := of_eq_true c79b0; have f11_ := of_eq_true c82b0; omega)
      replace H := Option.bind_eq_some_iff.mp H
      obtain ⟨⟨t156, t157, t158, t161, t162⟩, A840, H⟩ := H
      try dsimp -simprocs only at H
      have A84 := Aside0.mk A840
      clear A840
      have c85b0 := eq_true (of_decide_eq_true qq4 : 0 ≤ 12)
      have c86b0 := eq_true (of_decide_eq_true qq4 : 12 ≤ (t109.size : Int))
      by_cases c87 : (t109.extract 0 12).size + 2 ≤ 9223372036854775807
      rotate_left
      · rw [if_neg c87] at H
        exact absurd H (by simp)
      rw [if_pos c87] at H
      have c87b0 := eq_true c87
      have c87b1 : decide ((t109.extract 0 12).size + 2 ≤ 9223372036854775807) = true := decide_eq_true c87
      try have c87b2 : (9223372036854775807 < (t109.extract 0 12).size + 2) = False := eq_false (Nat.not_lt.2 c87)
      have c87b3 : (9223372036854775807 < 12 + 2) = False := eq_false (by have e_ := c87; (try simp only [ByteArray.size_append, ByteArray.size_extract, Nat.sub_zero] at e_); have f0_ := of_eq_true c30b0; have f1_ := of_eq_true c31b0; have f2_ := of_eq_true c34b0; have f3_ := of_eq_true c35b0; have f4_ := of_eq_true c61b0; have f5_ := of_eq_true c62b0; have f6_ := of_eq_true c64b0; have f7_ := of_eq_true c67b0; have f8_ := of_eq_true c68b0; have f9_ := of_eq_true c70b0; have f10_ := of_eq_true c79b0; have f11_ := of_eq_true c82b0; omega)
      by_cases c88 : 14 ≤ (t109.size : Int)
      rotate_left
      · rw [if_neg c88] at H
        exact absurd H (by simp)
      rw [if_pos c88] at H
      have c88b0 := eq_true c88
      have c88n0 : (14 ≤ t109.size) = True := eq_true (by have f_ := of_eq_true c88b0; omega)
      have c88b1 : decide (14 ≤ (t109.size : Int)) = true := decide_eq_true c88
      clear c88
      by_cases c89 : ((t109.extract 0 12) ++ (⟨#[0, 0]⟩ : ByteArray)).size + (t109.extract 14 t109.size).size ≤ 9223372036854775807
      rotate_left
      · rw [if_neg c89] at H
        exact absurd H (by simp)
      rw [if_pos c89] at H
      have c89b0 := eq_true c89
      have c89b1 : decide (((t109.extract 0 12) ++ (⟨#[0, 0]⟩ : ByteArray)).size + (t109.extract 14 t109.size).size ≤ 9223372036854775807) = true := decide_eq_true c89
      try have c89b2 : (9223372036854775807 < ((t109.extract 0 12) ++ (⟨#[0, 0]⟩ : ByteArray)).size + (t109.extract 14 t109.size).size) = False := eq_false (Nat.not_lt.2 c89)
      have c89b3 : (9223372036854775807 < (12 + 2) + (t109.size - 14)) = False := eq_false qqv
      have c89b4 : (9223372036854775807 < t109.size) = False := eq_false qqv
      replace H := Option.bind_eq_some_iff.mp H
      obtain ⟨⟨t164, t165, t166, t169, t170⟩, A900, H⟩ := H
      try dsimp -simprocs only at H
      have A90 := Aside0.mk A900
      clear A900
      by_cases c91 : true = true
      rotate_left
      · exact absurd rfl c91
      clear c91
      have H1 : (if t120 = 160 then (if t119 = x11_18 then (if t132 = 160 then (if t131 = 9 then (if t140 = 160 then (if t139 = 11 then (if t151 = 160 then (if t150 = 11 then (if t162 = 160 then (if t161 = 12 then (if t170 = 160 then (some (t169 == 13)) else (none)) else (none)) else (none)) else (none)) else (none)) else (none)) else (none)) else (none)) else (none)) else (none)) else (none)) = some r := by first | (rw [if_pos rfl] at H; exact H) | (rw [if_pos trivial] at H; exact H)
      clear H
      have H := H1
      clear H1
      by_cases c92 : t120 = 160
      rotate_left
      · rw [if_neg c92] at H
        exact absurd H (by simp)
      rw [if_pos c92] at H
      have c92b0 : (t120 == 160) = true := beq_iff_eq.mpr c92
      have c92b1 : (t120 != 160) = false := bne_eq_false_iff_eq.mpr c92
      clear c92
      by_cases c93 : t119 = x11_18
      rotate_left
      · rw [if_neg c93] at H
        exact absurd H (by simp)
      rw [if_pos c93] at H
      have c93b0 : (t119 == x11_18) = true := beq_iff_eq.mpr c93
      have c93b1 : (t119 != x11_18) = false := bne_eq_false_iff_eq.mpr c93
      clear c93
      by_cases c94 : t132 = 160
      rotate_left
      · rw [if_neg c94] at H
        exact absurd H (by simp)
      rw [if_pos c94] at H
      have c94b0 : (t132 == 160) = true := beq_iff_eq.mpr c94
      have c94b1 : (t132 != 160) = false := bne_eq_false_iff_eq.mpr c94
      clear c94
      by_cases c95 : t131 = 9
      rotate_left
      · rw [if_neg c95] at H
        exact absurd H (by simp)
      rw [if_pos c95] at H
      have c95b0 : (t131 == 9) = true := beq_iff_eq.mpr c95
      have c95b1 : (t131 != 9) = false := bne_eq_false_iff_eq.mpr c95
      clear c95
      by_cases c96 : t140 = 160
      rotate_left
      · rw [if_neg c96] at H
        exact absurd H (by simp)
      rw [if_pos c96] at H
      have c96b0 : (t140 == 160) = true := beq_iff_eq.mpr c96
      have c96b1 : (t140 != 160) = false := bne_eq_false_iff_eq.mpr c96
      clear c96
      by_cases c97 : t139 = 11
      rotate_left
      · rw [if_neg c97] at H
        exact absurd H (by simp)
      rw [if_pos c97] at H
      have c97b0 : (t139 == 11) = true := beq_iff_eq.mpr c97
      have c97b1 : (t139 != 11) = false := bne_eq_false_iff_eq.mpr c97
      clear c97
      by_cases c98 : t151 = 160
      rotate_left
      · rw [if_neg c98] at H
        exact absurd H (by simp)
      rw [if_pos c98] at H
      have c98b0 : (t151 == 160) = true := beq_iff_eq.mpr c98
      have c98b1 : (t151 != 160) = false := bne_eq_false_iff_eq.mpr c98
      clear c98
      by_cases c99 : t150 = 11
      rotate_left
      · rw [if_neg c99] at H
        exact absurd H (by simp)
      rw [if_pos c99] at H
      have c99b0 : (t150 == 11) = true := beq_iff_eq.mpr c99
      have c99b1 : (t150 != 11) = false := bne_eq_false_iff_eq.mpr c99
      clear c99
      by_cases c100 : t162 = 160
      rotate_left
      · rw [if_neg c100] at H
        exact absurd H (by simp)
      rw [if_pos c100] at H
      have c100b0 : (t162 == 160) = true := beq_iff_eq.mpr c100
      have c100b1 : (t162 != 160) = false := bne_eq_false_iff_eq.mpr c100
      clear c100
      by_cases c101 : t161 = 12
      rotate_left
      · rw [if_neg c101] at H
        exact absurd H (by simp)
      rw [if_pos c101] at H
      have c101b0 : (t161 == 12) = true := beq_iff_eq.mpr c101
      have c101b1 : (t161 != 12) = false := bne_eq_false_iff_eq.mpr c101
      clear c101
      by_cases c102 : t170 = 160
      rotate_left
      · rw [if_neg c102] at H
        exact absurd H (by simp)
      rw [if_pos c102] at H
      have c102b0 : (t170 == 160) = true := beq_iff_eq.mpr c102
      have c102b1 : (t170 != 160) = false := bne_eq_false_iff_eq.mpr c102
      clear c102
      obtain rfl := Option.some.inj H
      try go_wp2
      replace HO_109002 := Aside0.mk (Kd.N_drew HO_109002.out)
      replace BK101 := Aside0.mk (blk_drew BK101.out)
      replace BK108 := Aside0.mk (blk_drew BK108.out)
      replace HB := Aside0.mk (below_drew1 HB.out)
      refine start_ (n := 21) (S := fun w' => True) (ds := []) #[false, false, false, false, false, false, false, false, false, false, false, false, false, false, false, false, false, false, false, false, false] (by kernel_rfl) rfl rfl trivial (fun hHeld => ?_); refine with_tabW partitalaw16_SmfHead.tab11 partitalaw16_SmfHead.bits11 (fun HT_ HW_ => ?_)
      generalize wc.drew = w103 at HO_109002 BK101 BK108 HB hHeld ⊢
      refine pureS 0 (some 53) (bs 1 21) ?_
      refine pureS 1 (some 54) (bs 3 21) ?_
      refine pureS 2 (some 55) (bs 7 21) ?_
      refine pureS 3 (some 56) (bs 15 21) ?_
      refine pureS 7 (some 60) (bs 143 21) ?_
      refine pureS 8 (some 61) (bs 399 21) ?_
      refine pureS 9 (some 62) (bs 911 21) ?_
      refine pureS 10 (some 63) (bs 1935 21) ?_
      refine join_ (σ := Value × Value × Nat) 3 (bs 262143 21) (fun s_ => [(57, s_.1), (58, .string (strOfNums y111)), (65, .tuple #[.agg #[.int .i64 t114, .int .i64 t115, s_.2.1], .int .i64 t119, .int .i64 t120]), (12, .pointer (some ⟨s_.2.2, 0, none⟩)), (59, .string ((t109.extract 0 (x11_18 : Int).toNat) ++ (strOfNums y111))), (64, .string (((t109.extract 0 (x11_18 : Int).toNat) ++ (strOfNums y111)) ++ (t109.extract ((ji33) : Int).toNat t109.size))), (52, .tuple #[.agg #[.int .i64 t114, .int .i64 t115, s_.2.1], .int .i64 t119, .int .i64 t120]), (66, .agg #[.int .i64 t114, .int .i64 t115, s_.2.1]), (67, .int .i64 t119), (68, .int .i64 t120)]) (fun s_ w' => (Kd.R (Kd.int .u8) 5 w' w.heap.size (fun _ => True) s_.1 y111) ∧ (Kd.N (Kd.slice 28 k28) 30 w' w.heap.size (fun k_ => some k_ ≠ (s_.1 : Value).ownBlock ∧ some k_ ≠ (.slice Ao27 t105.length co27 : Value).ownBlock ∧ k_ ≠ gb101 ∧ k_ ≠ gb108 ∧ k_ ≠ s_.2.2) s_.2.1 t116) ∧ (Kd.N (Kd.slice 28 k28) 30 w' w.heap.size (fun k_ => some k_ ≠ (s_.1 : Value).ownBlock ∧ some k_ ≠ (s_.2.1 : Value).ownBlock ∧ k_ ≠ gb101 ∧ k_ ≠ gb108 ∧ k_ ≠ s_.2.2) (.slice Ao27 t105.length co27) t105) ∧ (w'.heap[gb101]? = some (.cells #[.int .i64 a0_0, .int .i64 a0_1, .slice A0_2 l0_2.length c0_2] 24 (0, 0))) ∧ (w'.heap[gb108]? = some (.cells #[.int .i64 t103, .int .i64 t104, .slice Ao27 t105.length co27] 24 (0, 0))) ∧ (w'.heap[s_.2.2]? = some (.cells #[.int .i64 0, .int .i64 0, .slice none 0 0] 24 (0, 0))) ∧ (w.heap.size ≤ s_.2.2) ∧ (w.heap.size ≤ s_.2.2) ∧ (gb101 ≠ s_.2.2) ∧ (s_.2.2 ≠ gb101) ∧ (gb108 ≠ s_.2.2) ∧ (s_.2.2 ≠ gb108) ∧ (Below w.heap.size w w')) ?_ ?_
      rotate_left
      · intro hCont
        refine two_ (i := 4) (j := 17) (Ni := some 57) (Nj := some 12) (bs 1951 21) (bs 133007 21) rfl rfl rfl rfl (two_of HT_.out (by kernel_rfl)) (by decide) (by decide) (fun K hK => ?_) (fun K hK => ?_)
        rotate_left
        · skip
          refine box_step ?hg (N := 12) ?hd (cs := #[.int .i64 0, .int .i64 0, .slice none 0 0]) (t := 24) ?hr ?_; (case hd => rfl); (case hg => rfl); (case hr => exact qq6)
          intro gb121 hg w104 hbox hb
          replace HO_109002 := Aside0.mk (Kd.N_below (Kd.N_elderB (qN HO_109002.out) gb121 (Nat.le_of_eq hg.symm)) hb)
          have BK121 := Aside0.mk (hbox)
          have GW121 := Aside0.mk ((qqi : w.heap.size ≤ gb121))
          have GE121 := Aside0.mk ((qqi : w.heap.size ≤ gb121))
          replace HB := Aside0.mk (below_step (qS2 GE101 GE108 HB.out) hb)
          have NB101_121 := Aside0.mk ((qqb : gb101 ≠ gb121))
          have NB121_101 := Aside0.mk ((qqc : gb121 ≠ gb101))
          replace BK101 := Aside0.mk (blk_below (bq BK101.out) hb)
          have NB108_121 := Aside0.mk ((qqC : gb108 ≠ gb121))
          have NB121_108 := Aside0.mk ((qqD : gb121 ≠ gb108))
          replace BK108 := Aside0.mk (blk_below (bq BK108.out) hb)
          clear hb hbox hg
          refine hK.out _ _ trivial (fun hHeld => ?_)
          clear hK K
          refine normS (some 12) ?_
          refine one_ (i := 4) (N := some 57) (bs 133023 21) rfl rfl (one_of HT_.out (by kernel_rfl)) (by decide) (fun K hK => ?_)
          refine Kd.R_lit_step (Kd.int .u8) _ 5 ?hg (N := 57) ?hd (xs := ([a2] : List Int)) (inner := [.int .u8 a2]) (ok := fun _ => True) (okp := fun _ => True) ?hr ?hp (fun _ hk => hk) trivial (Below.refl _ _) (Nat.le_refl _) (by simp) ?_; (case hd => rfl); (case hg => rfl); (case hr => exact qq6); (case hp => exact qq1a)
          intro v112 w105 ho106 hb hg_ hnew_
          clear hg_ hnew_
          (first | rw [← Ny111.out] at ho106 | (simp only [Int.reduceToNat] at ho106; rw [← Ny111.out] at ho106))
          replace HO_109002 := Aside0.mk (Kd.N_elder' (qN HO_109002.out) (Kd.R_base ho106) hb)
          have HO113 := Aside0.mk (Kd.R_lower ho106 (below_size (qS3 GE101 GE108 GE121 HB.out)))
          replace BK101 := Aside0.mk (blk_below (bq BK101.out) hb)
          replace BK108 := Aside0.mk (blk_below (bq BK108.out) hb)
          replace BK121 := Aside0.mk (blk_below (bq BK121.out) hb)
          replace HB := Aside0.mk (below_step (qS3 GE101 GE108 GE121 HB.out) hb)
          clear hb ho106
          refine hK.out _ _ trivial (fun hHeld => ?_)
          clear hK K
          refine normS (some 57) ?_
          refine one_ (i := 5) (N := some 58) (bs 133055 21) rfl rfl (one_of HT_.out (by kernel_rfl)) (by decide) (fun K hK => ?_)
          have hcv107 := own_string (P := Try.prog) Try.underlying39 Try.underlying5 Try.underlying9 (Kd.own_of_R HO113.out)
          refine value_ (w1 := ?_) (v := ?_) (by rfl) rfl ?_ ?_
          rotate_left 2
          · go_simp
            constructor
            · rfl
            rfl
          clear hcv107
          refine hK.out _ _ trivial (fun hHeld => ?_)
          clear hK K
          refine normS (some 58) ?_
          refine pureS 6 (some 59) (bs 133119 21) ?_
          refine pureS 11 (some 64) (bs 135167 21) ?_
          refine one_ (i := 12) (N := some 65) (bs 139263 21) rfl rfl (one_of HT_.out (by kernel_rfl)) (by decide) (fun K hK => ?_)
          refine goes_ Try.func21 (by kernel_rfl) rfl #[.string (((t109.extract 0 (x11_18 : Int).toNat) ++ (strOfNums y111)) ++ (t109.extract ((ji33) : Int).toNat t109.size))] (by rfl) rfl rfl qqg ?_
          with_reducible refine (smf_Parse.calls kj18 (((t109.extract 0 (x11_18 : Int).toNat) ++ (strOfNums y111)) ++ (t109.extract ((ji33) : Int).toNat t109.size)) t114 t115 t116 t119 t120 _ A37.out).mono ?_
          rintro e w108 ⟨v117, rfl, ho0, hb⟩
          refine ⟨_, rfl, ?_⟩
          have HO118 := Aside0.mk (Kd.N_lower (Kd.N_mono (ok' := fun k_ => some k_ ≠ (.slice Ao27 t105.length co27 : Value).ownBlock ∧ some k_ ≠ (v112 : Value).ownBlock ∧ k_ ≠ gb101 ∧ k_ ≠ gb108 ∧ k_ ≠ gb121) (Kd.S_N (Kd.S_bound ho0)) (fun k_ hk_ => ⟨(Kd.fresh' (Kd.N_lt (qN HO_109002.out)) k_ hk_.2.1), (Kd.fresh' (Kd.R_lt (qR HO113.out)) k_ hk_.2.1), (Kd.freshB (bq BK101.out) k_ hk_.2.1), (Kd.freshB (bq BK108.out) k_ hk_.2.1), (Kd.freshB (bq BK121.out) k_ hk_.2.1)⟩)) (below_size (qS3 GE101 GE108 GE121 HB.out)))
          replace HO_109002 := Aside0.mk (Kd.N_elder' (qN HO_109002.out) qqd hb)
          replace HO113 := Aside0.mk (Kd.R_below (qR HO113.out) hb)
          replace BK101 := Aside0.mk (blk_below (bq BK101.out) hb)
          replace BK108 := Aside0.mk (blk_below (bq BK108.out) hb)
          replace BK121 := Aside0.mk (blk_below (bq BK121.out) hb)
          replace HB := Aside0.mk (below_step (qS3 GE101 GE108 GE121 HB.out) hb)
          (try clear hb)
          (try clear hb2)
          (try clear hk)
          (try clear hi)
          (try clear ho0)
          refine hK.out _ _ trivial (fun hHeld => ?_)
          clear hK K
          refine normS (some 65) ?_
          refine pureS 13 (some 52) (bs 147455 21) ?_
          refine pureS 14 (some 66) (bs 163839 21) ?_
          refine pureS 15 (some 67) (bs 196607 21) ?_
          refine pureS 16 (some 68) (bs 262143 21) ?_
          exact norm_ qq1 (hCont (v112, v117, gb121) _ ⟨(qR HO113.out), qqj, qq1d, (bq BK101.out), (bq BK108.out), (bq BK121.out), GW121.out, GE121.out, NB101_121.out, NB121_101.out, NB108_121.out, NB121_108.out, (qS3 GE101 GE108 GE121 HB.out)⟩)
        skip
        refine Kd.R_lit_step (Kd.int .u8) _ 5 ?hg (N := 57) ?hd (xs := ([a2] : List Int)) (inner := [.int .u8 a2]) (ok := fun _ => True) (okp := fun _ => True) ?hr ?hp (fun _ hk => hk) trivial (Below.refl _ _) (Nat.le_refl _) (by simp) ?_; (case hd => rfl); (case hg => rfl); (case hr => exact qq6); (case hp => exact qq1a)
        intro v112 w104 ho105 hb hg_ hnew_
        clear hg_ hnew_
        (first | rw [← Ny111.out] at ho105 | (simp only [Int.reduceToNat] at ho105; rw [← Ny111.out] at ho105))
        replace HO_109002 := Aside0.mk (Kd.N_elder' (qN HO_109002.out) (Kd.R_base ho105) hb)
        have HO113 := Aside0.mk (Kd.R_lower ho105 (below_size (qS2 GE101 GE108 HB.out)))
        replace BK101 := Aside0.mk (blk_below (bq BK101.out) hb)
        replace BK108 := Aside0.mk (blk_below (bq BK108.out) hb)
        replace HB := Aside0.mk (below_step (qS2 GE101 GE108 HB.out) hb)
        clear hb ho105
        refine hK.out _ _ trivial (fun hHeld => ?_)
        clear hK K
        refine normS (some 57) ?_
        refine two_ (i := 5) (j := 17) (Ni := some 58) (Nj := some 12) (bs 1983 21) (bs 133023 21) rfl rfl rfl rfl (two_of HT_.out (by kernel_rfl)) (by decide) (by decide) (fun K hK => ?_) (fun K hK => ?_)
        rotate_left
        · skip
          refine box_step ?hg (N := 12) ?hd (cs := #[.int .i64 0, .int .i64 0, .slice none 0 0]) (t := 24) ?hr ?_; (case hd => rfl); (case hg => rfl); (case hr => exact qq6)
          intro gb121 hg w106 hbox hb
          replace HO_109002 := Aside0.mk (Kd.N_below (Kd.N_elderB (qN HO_109002.out) gb121 (Nat.le_of_eq hg.symm)) hb)
          replace HO113 := Aside0.mk (Kd.R_below (qR HO113.out) hb)
          have BK121 := Aside0.mk (hbox)
          have GW121 := Aside0.mk ((qqi : w.heap.size ≤ gb121))
          have GE121 := Aside0.mk ((qqi : w.heap.size ≤ gb121))
          replace HB := Aside0.mk (below_step (qS2 GE101 GE108 HB.out) hb)
          have NB101_121 := Aside0.mk ((qqb : gb101 ≠ gb121))
          have NB121_101 := Aside0.mk ((qqc : gb121 ≠ gb101))
          replace BK101 := Aside0.mk (blk_below (bq BK101.out) hb)
          have NB108_121 := Aside0.mk ((qqC : gb108 ≠ gb121))
          have NB121_108 := Aside0.mk ((qqD : gb121 ≠ gb108))
          replace BK108 := Aside0.mk (blk_below (bq BK108.out) hb)
          clear hb hbox hg
          refine hK.out _ _ trivial (fun hHeld => ?_)
          clear hK K
          refine normS (some 12) ?_
          refine one_ (i := 5) (N := some 58) (bs 133055 21) rfl rfl (one_of HT_.out (by kernel_rfl)) (by decide) (fun K hK => ?_)
          have hcv107 := own_string (P := Try.prog) Try.underlying39 Try.underlying5 Try.underlying9 (Kd.own_of_R HO113.out)
          refine value_ (w1 := ?_) (v := ?_) (by rfl) rfl ?_ ?_
          rotate_left 2
          · go_simp
            constructor
            · rfl
            rfl
          clear hcv107
          refine hK.out _ _ trivial (fun hHeld => ?_)
          clear hK K
          refine normS (some 58) ?_
          refine pureS 6 (some 59) (bs 133119 21) ?_
          refine pureS 11 (some 64) (bs 135167 21) ?_
          refine one_ (i := 12) (N := some 65) (bs 139263 21) rfl rfl (one_of HT_.out (by kernel_rfl)) (by decide) (fun K hK => ?_)
          refine goes_ Try.func21 (by kernel_rfl) rfl #[.string (((t109.extract 0 (x11_18 : Int).toNat) ++ (strOfNums y111)) ++ (t109.extract ((ji33) : Int).toNat t109.size))] (by rfl) rfl rfl qqg ?_
          with_reducible refine (smf_Parse.calls kj18 (((t109.extract 0 (x11_18 : Int).toNat) ++ (strOfNums y111)) ++ (t109.extract ((ji33) : Int).toNat t109.size)) t114 t115 t116 t119 t120 _ A37.out).mono ?_
          rintro e w108 ⟨v117, rfl, ho0, hb⟩
          refine ⟨_, rfl, ?_⟩
          have HO118 := Aside0.mk (Kd.N_lower (Kd.N_mono (ok' := fun k_ => some k_ ≠ (.slice Ao27 t105.length co27 : Value).ownBlock ∧ some k_ ≠ (v112 : Value).ownBlock ∧ k_ ≠ gb101 ∧ k_ ≠ gb108 ∧ k_ ≠ gb121) (Kd.S_N (Kd.S_bound ho0)) (fun k_ hk_ => ⟨(Kd.fresh' (Kd.N_lt (qN HO_109002.out)) k_ hk_.2.1), (Kd.fresh' (Kd.R_lt (qR HO113.out)) k_ hk_.2.1), (Kd.freshB (bq BK101.out) k_ hk_.2.1), (Kd.freshB (bq BK108.out) k_ hk_.2.1), (Kd.freshB (bq BK121.out) k_ hk_.2.1)⟩)) (below_size (qS3 GE101 GE108 GE121 HB.out)))
          replace HO_109002 := Aside0.mk (Kd.N_elder' (qN HO_109002.out) qqd hb)
          replace HO113 := Aside0.mk (Kd.R_below (qR HO113.out) hb)
          replace BK101 := Aside0.mk (blk_below (bq BK101.out) hb)
          replace BK108 := Aside0.mk (blk_below (bq BK108.out) hb)
          replace BK121 := Aside0.mk (blk_below (bq BK121.out) hb)
          replace HB := Aside0.mk (below_step (qS3 GE101 GE108 GE121 HB.out) hb)
          (try clear hb)
          (try clear hb2)
          (try clear hk)
          (try clear hi)
          (try clear ho0)
          refine hK.out _ _ trivial (fun hHeld => ?_)
          clear hK K
          refine normS (some 65) ?_
          refine pureS 13 (some 52) (bs 147455 21) ?_
          refine pureS 14 (some 66) (bs 163839 21) ?_
          refine pureS 15 (some 67) (bs 196607 21) ?_
          refine pureS 16 (some 68) (bs 262143 21) ?_
          exact norm_ qq1 (hCont (v112, v117, gb121) _ ⟨(qR HO113.out), qqj, qqw, (bq BK101.out), (bq BK108.out), (bq BK121.out), GW121.out, GE121.out, NB101_121.out, NB121_101.out, NB108_121.out, NB121_108.out, (qS3 GE101 GE108 GE121 HB.out)⟩)
        skip
        have hcv106 := own_string (P := Try.prog) Try.underlying39 Try.underlying5 Try.underlying9 (Kd.own_of_R HO113.out)
        refine value_ (w1 := ?_) (v := ?_) (by rfl) rfl ?_ ?_
        rotate_left 2
        · go_simp
          constructor
          · rfl
          rfl
        clear hcv106
        refine hK.out _ _ trivial (fun hHeld => ?_)
        clear hK K
        refine normS (some 58) ?_
        refine pureS 6 (some 59) (bs 2047 21) ?_
        refine pureS 11 (some 64) (bs 4095 21) ?_
        refine two_ (i := 12) (j := 17) (Ni := some 65) (Nj := some 12) (bs 8191 21) (bs 135167 21) rfl rfl rfl rfl (two_of HT_.out (by kernel_rfl)) (by decide) (by decide) (fun K hK => ?_) (fun K hK => ?_)
        · skip
          refine goes_ Try.func21 (by kernel_rfl) rfl #[.string (((t109.extract 0 (x11_18 : Int).toNat) ++ (strOfNums y111)) ++ (t109.extract ((ji33) : Int).toNat t109.size))] (by rfl) rfl rfl qqg ?_
          with_reducible refine (smf_Parse.calls kj18 (((t109.extract 0 (x11_18 : Int).toNat) ++ (strOfNums y111)) ++ (t109.extract ((ji33) : Int).toNat t109.size)) t114 t115 t116 t119 t120 _ A37.out).mono ?_
          rintro e w107 ⟨v117, rfl, ho0, hb⟩
          refine ⟨_, rfl, ?_⟩
          have HO118 := Aside0.mk (Kd.N_lower (Kd.N_mono (ok' := fun k_ => some k_ ≠ (.slice Ao27 t105.length co27 : Value).ownBlock ∧ some k_ ≠ (v112 : Value).ownBlock ∧ k_ ≠ gb101 ∧ k_ ≠ gb108) (Kd.S_N (Kd.S_bound ho0)) (fun k_ hk_ => ⟨(Kd.fresh' (Kd.N_lt (qN HO_109002.out)) k_ hk_.2.1), (Kd.fresh' (Kd.R_lt (qR HO113.out)) k_ hk_.2.1), (Kd.freshB (bq BK101.out) k_ hk_.2.1), (Kd.freshB (bq BK108.out) k_ hk_.2.1)⟩)) (below_size (qS2 GE101 GE108 HB.out)))
          replace HO_109002 := Aside0.mk (Kd.N_elder' (qN HO_109002.out) qqd hb)
          replace HO113 := Aside0.mk (Kd.R_below (qR HO113.out) hb)
          replace BK101 := Aside0.mk (blk_below (bq BK101.out) hb)
          replace BK108 := Aside0.mk (blk_below (bq BK108.out) hb)
          replace HB := Aside0.mk (below_step (qS2 GE101 GE108 HB.out) hb)
          (try clear hb)
          (try clear hb2)
          (try clear hk)
          (try clear hi)
          (try clear ho0)
          refine hK.out _ _ trivial (fun hHeld => ?_)
          clear hK K
          refine normS (some 65) ?_
          refine pureS 13 (some 52) (bs 16383 21) ?_
          refine pureS 14 (some 66) (bs 32767 21) ?_
          refine pureS 15 (some 67) (bs 65535 21) ?_
          refine pureS 16 (some 68) (bs 131071 21) ?_
          refine one_ (i := 17) (N := some 12) (bs 262143 21) rfl rfl (one_of HT_.out (by kernel_rfl)) (by decide) (fun K hK => ?_)
          refine box_step ?hg (N := 12) ?hd (cs := #[.int .i64 0, .int .i64 0, .slice none 0 0]) (t := 24) ?hr ?_; (case hd => rfl); (case hg => rfl); (case hr => exact qq6)
          intro gb121 hg w108 hbox hb
          replace HO_109002 := Aside0.mk (Kd.N_below (Kd.N_elderB (qN HO_109002.out) gb121 (Nat.le_of_eq hg.symm)) hb)
          replace HO113 := Aside0.mk (Kd.R_below (qR HO113.out) hb)
          replace HO118 := Aside0.mk (Kd.N_below (Kd.N_elderB (qN HO118.out) gb121 (Nat.le_of_eq hg.symm)) hb)
          have BK121 := Aside0.mk (hbox)
          have GW121 := Aside0.mk ((qqi : w.heap.size ≤ gb121))
          have GE121 := Aside0.mk ((qqi : w.heap.size ≤ gb121))
          replace HB := Aside0.mk (below_step (qS2 GE101 GE108 HB.out) hb)
          have NB101_121 := Aside0.mk ((qqb : gb101 ≠ gb121))
          have NB121_101 := Aside0.mk ((qqc : gb121 ≠ gb101))
          replace BK101 := Aside0.mk (blk_below (bq BK101.out) hb)
          have NB108_121 := Aside0.mk ((qqC : gb108 ≠ gb121))
          have NB121_108 := Aside0.mk ((qqD : gb121 ≠ gb108))
          replace BK108 := Aside0.mk (blk_below (bq BK108.out) hb)
          clear hb hbox hg
          refine hK.out _ _ trivial (fun hHeld => ?_)
          clear hK K
          refine normS (some 12) ?_
          exact norm_ qq1 (hCont (v112, v117, gb121) _ ⟨(qR HO113.out), qq1g, qq1e, (bq BK101.out), (bq BK108.out), (bq BK121.out), GW121.out, GE121.out, NB101_121.out, NB121_101.out, NB108_121.out, NB121_108.out, (qS3 GE101 GE108 GE121 HB.out)⟩)
        skip
        refine box_step ?hg (N := 12) ?hd (cs := #[.int .i64 0, .int .i64 0, .slice none 0 0]) (t := 24) ?hr ?_; (case hd => rfl); (case hg => rfl); (case hr => exact qq6)
        intro gb121 hg w107 hbox hb
        replace HO_109002 := Aside0.mk (Kd.N_below (Kd.N_elderB (qN HO_109002.out) gb121 (Nat.le_of_eq hg.symm)) hb)
        replace HO113 := Aside0.mk (Kd.R_below (qR HO113.out) hb)
        have BK121 := Aside0.mk (hbox)
        have GW121 := Aside0.mk ((qqi : w.heap.size ≤ gb121))
        have GE121 := Aside0.mk ((qqi : w.heap.size ≤ gb121))
        replace HB := Aside0.mk (below_step (qS2 GE101 GE108 HB.out) hb)
        have NB101_121 := Aside0.mk ((qqb : gb101 ≠ gb121))
        have NB121_101 := Aside0.mk ((qqc : gb121 ≠ gb101))
        replace BK101 := Aside0.mk (blk_below (bq BK101.out) hb)
        have NB108_121 := Aside0.mk ((qqC : gb108 ≠ gb121))
        have NB121_108 := Aside0.mk ((qqD : gb121 ≠ gb108))
        replace BK108 := Aside0.mk (blk_below (bq BK108.out) hb)
        clear hb hbox hg
        refine hK.out _ _ trivial (fun hHeld => ?_)
        clear hK K
        refine normS (some 12) ?_
        refine one_ (i := 12) (N := some 65) (bs 139263 21) rfl rfl (one_of HT_.out (by kernel_rfl)) (by decide) (fun K hK => ?_)
        refine goes_ Try.func21 (by kernel_rfl) rfl #[.string (((t109.extract 0 (x11_18 : Int).toNat) ++ (strOfNums y111)) ++ (t109.extract ((ji33) : Int).toNat t109.size))] (by rfl) rfl rfl qqg ?_
        with_reducible refine (smf_Parse.calls kj18 (((t109.extract 0 (x11_18 : Int).toNat) ++ (strOfNums y111)) ++ (t109.extract ((ji33) : Int).toNat t109.size)) t114 t115 t116 t119 t120 _ A37.out).mono ?_
        rintro e w108 ⟨v117, rfl, ho0, hb⟩
        refine ⟨_, rfl, ?_⟩
        have HO118 := Aside0.mk (Kd.N_lower (Kd.N_mono (ok' := fun k_ => some k_ ≠ (.slice Ao27 t105.length co27 : Value).ownBlock ∧ some k_ ≠ (v112 : Value).ownBlock ∧ k_ ≠ gb101 ∧ k_ ≠ gb108 ∧ k_ ≠ gb121) (Kd.S_N (Kd.S_bound ho0)) (fun k_ hk_ => ⟨(Kd.fresh' (Kd.N_lt (qN HO_109002.out)) k_ hk_.2.1), (Kd.fresh' (Kd.R_lt (qR HO113.out)) k_ hk_.2.1), (Kd.freshB (bq BK101.out) k_ hk_.2.1), (Kd.freshB (bq BK108.out) k_ hk_.2.1), (Kd.freshB (bq BK121.out) k_ hk_.2.1)⟩)) (below_size (qS3 GE101 GE108 GE121 HB.out)))
        replace HO_109002 := Aside0.mk (Kd.N_elder' (qN HO_109002.out) qqd hb)
        replace HO113 := Aside0.mk (Kd.R_below (qR HO113.out) hb)
        replace BK101 := Aside0.mk (blk_below (bq BK101.out) hb)
        replace BK108 := Aside0.mk (blk_below (bq BK108.out) hb)
        replace BK121 := Aside0.mk (blk_below (bq BK121.out) hb)
        replace HB := Aside0.mk (below_step (qS3 GE101 GE108 GE121 HB.out) hb)
        (try clear hb)
        (try clear hb2)
        (try clear hk)
        (try clear hi)
        (try clear ho0)
        refine hK.out _ _ trivial (fun hHeld => ?_)
        clear hK K
        refine normS (some 65) ?_
        refine pureS 13 (some 52) (bs 147455 21) ?_
        refine pureS 14 (some 66) (bs 163839 21) ?_
        refine pureS 15 (some 67) (bs 196607 21) ?_
        refine pureS 16 (some 68) (bs 262143 21) ?_
        exact norm_ qq1 (hCont (v112, v117, gb121) _ ⟨(qR HO113.out), qqj, qqw, (bq BK101.out), (bq BK108.out), (bq BK121.out), GW121.out, GE121.out, NB101_121.out, NB121_101.out, NB108_121.out, NB121_108.out, (qS3 GE101 GE108 GE121 HB.out)⟩)
      rintro ⟨v112, v117, gb121⟩ w109 ⟨h0_, h1_, h2_, h3_, h4_, h5_, h6_, h7_, h8_, h9_, h10_, h11_, h12_⟩
      have n0_ : Aside0 (Kd.R (Kd.int .u8) 5 w109 w.heap.size (fun _ => True) v112 y111) := ⟨h0_⟩
      have n1_ : Aside0 (Kd.N (Kd.slice 28 k28) 30 w109 w.heap.size (fun k_ => some k_ ≠ (v112 : Value).ownBlock ∧ some k_ ≠ (.slice Ao27 t105.length co27 : Value).ownBlock ∧ k_ ≠ gb101 ∧ k_ ≠ gb108 ∧ k_ ≠ gb121) v117 t116) := ⟨h1_⟩
      have n2_ : Aside0 (Kd.N (Kd.slice 28 k28) 30 w109 w.heap.size (fun k_ => some k_ ≠ (v112 : Value).ownBlock ∧ some k_ ≠ (v117 : Value).ownBlock ∧ k_ ≠ gb101 ∧ k_ ≠ gb108 ∧ k_ ≠ gb121) (.slice Ao27 t105.length co27) t105) := ⟨h2_⟩
      have n3_ : Aside0 (w109.heap[gb101]? = some (.cells #[.int .i64 a0_0, .int .i64 a0_1, .slice A0_2 l0_2.length c0_2] 24 (0, 0))) := ⟨h3_⟩
      have n4_ : Aside0 (w109.heap[gb108]? = some (.cells #[.int .i64 t103, .int .i64 t104, .slice Ao27 t105.length co27] 24 (0, 0))) := ⟨h4_⟩
      have n5_ : Aside0 (w109.heap[gb121]? = some (.cells #[.int .i64 0, .int .i64 0, .slice none 0 0] 24 (0, 0))) := ⟨h5_⟩
      have n6_ : Aside0 (w.heap.size ≤ gb121) := ⟨h6_⟩
      have n7_ : Aside0 (w.heap.size ≤ gb121) := ⟨h7_⟩
      have n8_ : Aside0 (gb101 ≠ gb121) := ⟨h8_⟩
      have n9_ : Aside0 (gb121 ≠ gb101) := ⟨h9_⟩
      have n10_ : Aside0 (gb108 ≠ gb121) := ⟨h10_⟩
      have n11_ : Aside0 (gb121 ≠ gb108) := ⟨h11_⟩
      have n12_ : Aside0 (Below w.heap.size w w109) := ⟨h12_⟩
      clear HO_109002
      clear BK101
      clear BK108
      clear HB
      clear h0_ h1_ h2_ h3_ h4_ h5_ h6_ h7_ h8_ h9_ h10_ h11_ h12_
      have HO113 := n0_
      have HO118 := n1_
      have HO_109002 := n2_
      have BK101 := n3_
      have BK108 := n4_
      have BK121 := n5_
      have GW121 := n6_
      have GE121 := n7_
      have NB101_121 := n8_
      have NB121_101 := n9_
      have NB108_121 := n10_
      have NB121_108 := n11_
      have HB := n12_
      clear n0_ n1_ n2_ n3_ n4_ n5_ n6_ n7_ n8_ n9_ n10_ n11_ n12_
      have hHeld := trivial
      obtain ⟨Ao112, co112, eo112⟩ := Kd.N_slice HO118.out
      (first | subst eo112 | (injection eo112 with f1_ f2_ f3_; have f4_ := f1_.symm; have f5_ := f3_.symm; clear f1_ f2_ f3_; subst f4_; subst f5_))
      refine norm_ (a' := ?_) ?_ ?_
      rotate_left
      · simp only [putAll, Act.put, List.setIfInBounds_toArray, List.set_cons_zero, List.set_cons_succ]
        rfl
      refine one_ (i := 18) (N := none) (bs 524287 21) rfl rfl (one_of HT_.out (by kernel_rfl)) (by decide) (fun K hK => ?_)
      have hs110 : w109.cell? ⟨gb121, 0, none⟩ = some (.int .i64 0) := (blk_cell BK121.out 0).trans rfl
      have hfs110 := blk_frozen BK121.out 0
      have hns110_0 := NB101_121.out
      have hns110_1 := NB108_121.out
      have hms110_0 := NB121_101.out
      have hms110_1 := NB121_108.out
      have hs111 : w109.cell? ⟨gb121, 1, none⟩ = some (.int .i64 0) := (blk_cell BK121.out 1).trans rfl
      have hfs111 := blk_frozen BK121.out 1
      have hns111_0 := NB101_121.out
      have hns111_1 := NB108_121.out
      have hms111_0 := NB121_101.out
      have hms111_1 := NB121_108.out
      have hs113 : w109.cell? ⟨gb121, 2, none⟩ = some (.slice none 0 0) := (blk_cell BK121.out 2).trans rfl
      have hfs113 := blk_frozen BK121.out 2
      have hns113_0 := NB101_121.out
      have hns113_1 := NB108_121.out
      have hms113_0 := NB121_101.out
      have hms113_1 := NB121_108.out
      refine skip_ (w1 := ?_) (by rfl) rfl ?_ ?_
      rotate_left
      · go_simp
        rfl
      refine hK.out _ _ trivial (fun hHeld => ?_)
      clear hK K
      refine pureS 19 (some 13) (bs 1048575 21) ?_
      refine pureS 20 (some 14) (bs 2097151 21) ?_
      refine done_ (done_of HT_.out (by kernel_rfl)) ?_
      have p39 : 0 ≤ (x11_18 : Int) := of_decide_eq_true qq4
      have q39 : x11_18 < (t109.size : Int) := of_decide_eq_true qq4
      have hx39 := bt_at t109 x11_18
      replace p39 := eq_true p39
      replace q39 := eq_true q39
      try go_wp2
      have n0_ : Aside0 (Kd.N (Kd.slice 28 k28) 30 (((w109.setCell ⟨gb121, 0, none⟩ (.int .i64 t114)).setCell ⟨gb121, 1, none⟩ (.int .i64 t115)).setCell ⟨gb121, 2, none⟩ (.slice Ao112 t116.length co112)) w.heap.size (fun k_ => some k_ ≠ (v112 : Value).ownBlock ∧ some k_ ≠ (.slice Ao112 t116.length co112 : Value).ownBlock ∧ k_ ≠ gb101 ∧ k_ ≠ gb108 ∧ k_ ≠ gb121) (.slice Ao27 t105.length co27) t105) := ⟨by (with_reducible repeat (first | apply Kd.N_alloc | apply Kd.N_drewN | apply Kd.N_drew)); exact Kd.N_mono (Kd.N_far (p := ⟨gb121, 2, none⟩) (Kd.N_far (p := ⟨gb121, 1, none⟩) (Kd.N_far (p := ⟨gb121, 0, none⟩) (Kd.N_mono HO_109002.out (fun k_ hk => (⟨hk, hk.2.2.2.2⟩ : _ ∧ k_ ≠ gb121))) (fun _ hk => hk.2) (.int .i64 t114)) (fun _ hk => hk.2) (.int .i64 t115)) (fun _ hk => hk.2) (.slice Ao112 t116.length co112)) (fun _ hk => ⟨hk.1.1, ⟨hk.1.2.1, ⟨hk.1.2.2.1, ⟨hk.1.2.2.2.1, hk.1.2.2.2.2⟩⟩⟩⟩)⟩
      have n1_ : Aside0 (Kd.R (Kd.int .u8) 5 (((w109.setCell ⟨gb121, 0, none⟩ (.int .i64 t114)).setCell ⟨gb121, 1, none⟩ (.int .i64 t115)).setCell ⟨gb121, 2, none⟩ (.slice Ao112 t116.length co112)) w.heap.size (fun _ => True) v112 y111) := ⟨by (with_reducible repeat (first | apply Kd.R_alloc | apply Kd.R_drewN | apply Kd.R_drew)); exact Kd.R_mono (Kd.R_far (p := ⟨gb121, 2, none⟩) (Kd.R_far (p := ⟨gb121, 1, none⟩) (Kd.R_far (p := ⟨gb121, 0, none⟩) (Kd.R_types HO113.out BK121.out (by decide)) (fun _ hk => hk.2) (.int .i64 t114)) (fun _ hk => hk.2) (.int .i64 t115)) (fun _ hk => hk.2) (.slice Ao112 t116.length co112)) (fun _ hk => trivial)⟩
      have n2_ : Aside0 (Kd.N (Kd.slice 28 k28) 30 (((w109.setCell ⟨gb121, 0, none⟩ (.int .i64 t114)).setCell ⟨gb121, 1, none⟩ (.int .i64 t115)).setCell ⟨gb121, 2, none⟩ (.slice Ao112 t116.length co112)) w.heap.size (fun k_ => some k_ ≠ (.slice Ao27 t105.length co27 : Value).ownBlock ∧ some k_ ≠ (v112 : Value).ownBlock ∧ k_ ≠ gb101 ∧ k_ ≠ gb108 ∧ k_ ≠ gb121) (.slice Ao112 t116.length co112) t116) := ⟨by (with_reducible repeat (first | apply Kd.N_alloc | apply Kd.N_drewN | apply Kd.N_drew)); exact Kd.N_mono (Kd.N_far (p := ⟨gb121, 2, none⟩) (Kd.N_far (p := ⟨gb121, 1, none⟩) (Kd.N_far (p := ⟨gb121, 0, none⟩) (Kd.N_mono HO118.out (fun k_ hk => (⟨hk, hk.2.2.2.2⟩ : _ ∧ k_ ≠ gb121))) (fun _ hk => hk.2) (.int .i64 t114)) (fun _ hk => hk.2) (.int .i64 t115)) (fun _ hk => hk.2) (.slice Ao112 t116.length co112)) (fun _ hk => ⟨hk.1.2.1, ⟨hk.1.1, ⟨hk.1.2.2.1, ⟨hk.1.2.2.2.1, hk.1.2.2.2.2⟩⟩⟩⟩)⟩
      have n3_ : Aside0 ((((w109.setCell ⟨gb121, 0, none⟩ (.int .i64 t114)).setCell ⟨gb121, 1, none⟩ (.int .i64 t115)).setCell ⟨gb121, 2, none⟩ (.slice Ao112 t116.length co112)).heap[gb101]? = some (.cells #[.int .i64 a0_0, .int .i64 a0_1, .slice A0_2 l0_2.length c0_2] 24 (0, 0))) := ⟨by (with_reducible repeat (first | refine blk_drewN ?_ _ | refine blk_drew ?_ | refine blk_alloc ?_ _)); refine blk_far ?_ NB101_121.out _; (with_reducible repeat (first | refine blk_drewN ?_ _ | refine blk_drew ?_ | refine blk_alloc ?_ _)); refine blk_far ?_ NB101_121.out _; (with_reducible repeat (first | refine blk_drewN ?_ _ | refine blk_drew ?_ | refine blk_alloc ?_ _)); refine blk_far ?_ NB101_121.out _; (with_reducible repeat (first | refine blk_drewN ?_ _ | refine blk_drew ?_ | refine blk_alloc ?_ _)); exact BK101.out⟩
      have n4_ : Aside0 ((((w109.setCell ⟨gb121, 0, none⟩ (.int .i64 t114)).setCell ⟨gb121, 1, none⟩ (.int .i64 t115)).setCell ⟨gb121, 2, none⟩ (.slice Ao112 t116.length co112)).heap[gb108]? = some (.cells #[.int .i64 t103, .int .i64 t104, .slice Ao27 t105.length co27] 24 (0, 0))) := ⟨by (with_reducible repeat (first | refine blk_drewN ?_ _ | refine blk_drew ?_ | refine blk_alloc ?_ _)); refine blk_far ?_ NB108_121.out _; (with_reducible repeat (first | refine blk_drewN ?_ _ | refine blk_drew ?_ | refine blk_alloc ?_ _)); refine blk_far ?_ NB108_121.out _; (with_reducible repeat (first | refine blk_drewN ?_ _ | refine blk_drew ?_ | refine blk_alloc ?_ _)); refine blk_far ?_ NB108_121.out _; (with_reducible repeat (first | refine blk_drewN ?_ _ | refine blk_drew ?_ | refine blk_alloc ?_ _)); exact BK108.out⟩
      have n5_ : Aside0 ((((w109.setCell ⟨gb121, 0, none⟩ (.int .i64 t114)).setCell ⟨gb121, 1, none⟩ (.int .i64 t115)).setCell ⟨gb121, 2, none⟩ (.slice Ao112 t116.length co112)).heap[gb121]? = some (.cells #[.int .i64 t114, .int .i64 t115, .slice Ao112 t116.length co112] 24 (0, 0))) := ⟨by (with_reducible repeat (first | refine blk_drewN ?_ _ | refine blk_drew ?_ | refine blk_alloc ?_ _)); refine blk_put (cs := #[.int .i64 t114, .int .i64 t115, .slice none 0 0]) ?_ 2 _ rfl; (with_reducible repeat (first | refine blk_drewN ?_ _ | refine blk_drew ?_ | refine blk_alloc ?_ _)); refine blk_put (cs := #[.int .i64 t114, .int .i64 0, .slice none 0 0]) ?_ 1 _ rfl; (with_reducible repeat (first | refine blk_drewN ?_ _ | refine blk_drew ?_ | refine blk_alloc ?_ _)); refine blk_put (cs := #[.int .i64 0, .int .i64 0, .slice none 0 0]) ?_ 0 _ rfl; (with_reducible repeat (first | refine blk_drewN ?_ _ | refine blk_drew ?_ | refine blk_alloc ?_ _)); exact BK121.out⟩
      have n6_ : Aside0 (Below w.heap.size w (((w109.setCell ⟨gb121, 0, none⟩ (.int .i64 t114)).setCell ⟨gb121, 1, none⟩ (.int .i64 t115)).setCell ⟨gb121, 2, none⟩ (.slice Ao112 t116.length co112))) := ⟨qS3 GE101 GE108 GE121 HB.out⟩
      (try clear HO_109002)
      (try clear HO113)
      (try clear HO118)
      (try clear BK101)
      (try clear BK108)
      (try clear BK121)
      (try clear HB)
      generalize (((w109.setCell ⟨gb121, 0, none⟩ (.int .i64 t114)).setCell ⟨gb121, 1, none⟩ (.int .i64 t115)).setCell ⟨gb121, 2, none⟩ (.slice Ao112 t116.length co112)) = w114 at n0_ n1_ n2_ n3_ n4_ n5_ n6_ ⊢
      have HO_109002 := n0_
      have HO113 := n1_
      have HO118 := n2_
      have BK101 := n3_
      have BK108 := n4_
      have BK121 := n5_
      have HB := n6_
      clear n0_ n1_ n2_ n3_ n4_ n5_ n6_
      clear HO_109002
      clear BK101
      clear BK108
      clear HO113
      clear HO118
      clear BK121
      replace HB := Aside0.mk (below_drew1 HB.out)
      refine start_ (n := 20) (S := fun w' => True) (ds := []) #[false, false, false, false, false, false, false, false, false, false, false, false, false, false, false, false, false, false, false, false] (by kernel_rfl) rfl rfl trivial (fun hHeld => ?_); refine with_tabW partitalaw16_SmfHead.tab14 partitalaw16_SmfHead.bits14 (fun HT_ HW_ => ?_)
      generalize w114.drew = w115 at HB hHeld ⊢
      refine pureS 0 (some 85) (bs 1 20) ?_
      refine pureS 1 (some 86) (bs 3 20) ?_
      refine pureS 2 (some 87) (bs 7 20) ?_
      refine pureS 3 (some 88) (bs 15 20) ?_
      refine pureS 4 (some 89) (bs 31 20) ?_
      refine pureS 8 (some 93) (bs 287 20) ?_
      refine pureS 9 (some 94) (bs 799 20) ?_
      refine join_ (σ := Value × Value × Nat) 3 (bs 131071 20) (fun s_ => [(90, s_.1), (91, .string (strOfNums y123)), (96, .tuple #[.agg #[.int .i64 t126, .int .i64 t127, s_.2.1], .int .i64 t131, .int .i64 t132]), (15, .pointer (some ⟨s_.2.2, 0, none⟩)), (92, .string ((t109.extract 0 9) ++ (strOfNums y123))), (95, .string (((t109.extract 0 9) ++ (strOfNums y123)) ++ (t109.extract 10 t109.size))), (84, .tuple #[.agg #[.int .i64 t126, .int .i64 t127, s_.2.1], .int .i64 t131, .int .i64 t132]), (97, .agg #[.int .i64 t126, .int .i64 t127, s_.2.1]), (98, .int .i64 t131), (99, .int .i64 t132)]) (fun s_ w' => (Kd.R (Kd.int .u8) 5 w' w.heap.size (fun _ => True) s_.1 y123) ∧ (Kd.N (Kd.slice 28 k28) 30 w' w.heap.size (fun k_ => some k_ ≠ (s_.1 : Value).ownBlock ∧ k_ ≠ s_.2.2) s_.2.1 t128) ∧ (w'.heap[s_.2.2]? = some (.cells #[.int .i64 0, .int .i64 0, .slice none 0 0] 24 (0, 0))) ∧ (w.heap.size ≤ s_.2.2) ∧ (w.heap.size ≤ s_.2.2) ∧ (Below w.heap.size w w')) ?_ ?_
      rotate_left
      · intro hCont
        refine two_ (i := 5) (j := 16) (Ni := some 90) (Nj := some 15) (bs 831 20) (bs 66335 20) rfl rfl rfl rfl (two_of HT_.out (by kernel_rfl)) (by decide) (by decide) (fun K hK => ?_) (fun K hK => ?_)
        rotate_left
        · skip
          refine box_step ?hg (N := 15) ?hd (cs := #[.int .i64 0, .int .i64 0, .slice none 0 0]) (t := 24) ?hr ?_; (case hd => rfl); (case hg => rfl); (case hr => exact qq6)
          intro gb133 hg w116 hbox hb
          have BK133 := Aside0.mk (hbox)
          have GW133 := Aside0.mk ((qq9 : w.heap.size ≤ gb133))
          have GE133 := Aside0.mk ((qq9 : w.heap.size ≤ gb133))
          replace HB := Aside0.mk (below_step (qB HB.out) hb)
          clear hb hbox hg
          refine hK.out _ _ trivial (fun hHeld => ?_)
          clear hK K
          refine normS (some 15) ?_
          refine one_ (i := 5) (N := some 90) (bs 66367 20) rfl rfl (one_of HT_.out (by kernel_rfl)) (by decide) (fun K hK => ?_)
          refine Kd.R_lit_step (Kd.int .u8) _ 5 ?hg (N := 90) ?hd (xs := ([(2 + (Int.tmod a2 254)) % 256] : List Int)) (inner := [.int .u8 ((2 + (Int.tmod a2 254)) % 256)]) (ok := fun _ => True) (okp := fun _ => True) ?hr ?hp (fun _ hk => hk) trivial (Below.refl _ _) (Nat.le_refl _) (by simp) ?_; (case hd => rfl); (case hg => rfl); (case hr => exact qq6); (case hp => exact qq1z)
          intro v124 w117 ho118 hb hg_ hnew_
          clear hg_ hnew_
          (first | rw [← Ny123.out] at ho118 | (simp only [Int.reduceToNat] at ho118; rw [← Ny123.out] at ho118))
          have HO125 := Aside0.mk (Kd.R_lower ho118 (below_size (qS1 GE133 HB.out)))
          replace BK133 := Aside0.mk (blk_below (bq BK133.out) hb)
          replace HB := Aside0.mk (below_step (qS1 GE133 HB.out) hb)
          clear hb ho118
          refine hK.out _ _ trivial (fun hHeld => ?_)
          clear hK K
          refine normS (some 90) ?_
          refine one_ (i := 6) (N := some 91) (bs 66431 20) rfl rfl (one_of HT_.out (by kernel_rfl)) (by decide) (fun K hK => ?_)
          have hcv119 := own_string (P := Try.prog) Try.underlying39 Try.underlying5 Try.underlying9 (Kd.own_of_R HO125.out)
          refine value_ (w1 := ?_) (v := ?_) (by rfl) rfl ?_ ?_
          rotate_left 2
          · go_simp
            constructor
            · rfl
            rfl
          clear hcv119
          refine hK.out _ _ trivial (fun hHeld => ?_)
          clear hK K
          refine normS (some 91) ?_
          refine pureS 7 (some 92) (bs 66559 20) ?_
          refine pureS 10 (some 95) (bs 67583 20) ?_
          refine one_ (i := 11) (N := some 96) (bs 69631 20) rfl rfl (one_of HT_.out (by kernel_rfl)) (by decide) (fun K hK => ?_)
          refine goes_ Try.func21 (by kernel_rfl) rfl #[.string (((t109.extract 0 9) ++ (strOfNums y123)) ++ (t109.extract 10 t109.size))] (by rfl) rfl rfl qq0 ?_
          with_reducible refine (smf_Parse.calls kj18 (((t109.extract 0 9) ++ (strOfNums y123)) ++ (t109.extract 10 t109.size)) t126 t127 t128 t131 t132 _ A66.out).mono ?_
          rintro e w120 ⟨v129, rfl, ho0, hb⟩
          refine ⟨_, rfl, ?_⟩
          have HO130 := Aside0.mk (Kd.N_lower (Kd.N_mono (ok' := fun k_ => some k_ ≠ (v124 : Value).ownBlock ∧ k_ ≠ gb133) (Kd.S_N (Kd.S_bound ho0)) (fun k_ hk_ => ⟨(Kd.fresh' (Kd.R_lt (qR HO125.out)) k_ hk_.2.1), (Kd.freshB (bq BK133.out) k_ hk_.2.1)⟩)) (below_size (qS1 GE133 HB.out)))
          replace HO125 := Aside0.mk (Kd.R_below (qR HO125.out) hb)
          replace BK133 := Aside0.mk (blk_below (bq BK133.out) hb)
          replace HB := Aside0.mk (below_step (qS1 GE133 HB.out) hb)
          (try clear hb)
          (try clear hb2)
          (try clear hk)
          (try clear hi)
          (try clear ho0)
          refine hK.out _ _ trivial (fun hHeld => ?_)
          clear hK K
          refine normS (some 96) ?_
          refine pureS 12 (some 84) (bs 73727 20) ?_
          refine pureS 13 (some 97) (bs 81919 20) ?_
          refine pureS 14 (some 98) (bs 98303 20) ?_
          refine pureS 15 (some 99) (bs 131071 20) ?_
          exact norm_ qq1 (hCont (v124, v129, gb133) _ ⟨(qR HO125.out), (qN HO130.out), (bq BK133.out), GW133.out, GE133.out, (qS1 GE133 HB.out)⟩)
        skip
        refine Kd.R_lit_step (Kd.int .u8) _ 5 ?hg (N := 90) ?hd (xs := ([(2 + (Int.tmod a2 254)) % 256] : List Int)) (inner := [.int .u8 ((2 + (Int.tmod a2 254)) % 256)]) (ok := fun _ => True) (okp := fun _ => True) ?hr ?hp (fun _ hk => hk) trivial (Below.refl _ _) (Nat.le_refl _) (by simp) ?_; (case hd => rfl); (case hg => rfl); (case hr => exact qq6); (case hp => exact qq1z)
        intro v124 w116 ho117 hb hg_ hnew_
        clear hg_ hnew_
        (first | rw [← Ny123.out] at ho117 | (simp only [Int.reduceToNat] at ho117; rw [← Ny123.out] at ho117))
        have HO125 := Aside0.mk (Kd.R_lower ho117 (below_size (qB HB.out)))
        replace HB := Aside0.mk (below_step (qB HB.out) hb)
        clear hb ho117
        refine hK.out _ _ trivial (fun hHeld => ?_)
        clear hK K
        refine normS (some 90) ?_
        refine two_ (i := 6) (j := 16) (Ni := some 91) (Nj := some 15) (bs 895 20) (bs 66367 20) rfl rfl rfl rfl (two_of HT_.out (by kernel_rfl)) (by decide) (by decide) (fun K hK => ?_) (fun K hK => ?_)
        rotate_left
        · skip
          refine box_step ?hg (N := 15) ?hd (cs := #[.int .i64 0, .int .i64 0, .slice none 0 0]) (t := 24) ?hr ?_; (case hd => rfl); (case hg => rfl); (case hr => exact qq6)
          intro gb133 hg w118 hbox hb
          replace HO125 := Aside0.mk (Kd.R_below (qR HO125.out) hb)
          have BK133 := Aside0.mk (hbox)
          have GW133 := Aside0.mk ((qq9 : w.heap.size ≤ gb133))
          have GE133 := Aside0.mk ((qq9 : w.heap.size ≤ gb133))
          replace HB := Aside0.mk (below_step (qB HB.out) hb)
          clear hb hbox hg
          refine hK.out _ _ trivial (fun hHeld => ?_)
          clear hK K
          refine normS (some 15) ?_
          refine one_ (i := 6) (N := some 91) (bs 66431 20) rfl rfl (one_of HT_.out (by kernel_rfl)) (by decide) (fun K hK => ?_)
          have hcv119 := own_string (P := Try.prog) Try.underlying39 Try.underlying5 Try.underlying9 (Kd.own_of_R HO125.out)
          refine value_ (w1 := ?_) (v := ?_) (by rfl) rfl ?_ ?_
          rotate_left 2
          · go_simp
            constructor
            · rfl
            rfl
          clear hcv119
          refine hK.out _ _ trivial (fun hHeld => ?_)
          clear hK K
          refine normS (some 91) ?_
          refine pureS 7 (some 92) (bs 66559 20) ?_
          refine pureS 10 (some 95) (bs 67583 20) ?_
          refine one_ (i := 11) (N := some 96) (bs 69631 20) rfl rfl (one_of HT_.out (by kernel_rfl)) (by decide) (fun K hK => ?_)
          refine goes_ Try.func21 (by kernel_rfl) rfl #[.string (((t109.extract 0 9) ++ (strOfNums y123)) ++ (t109.extract 10 t109.size))] (by rfl) rfl rfl qq0 ?_
          with_reducible refine (smf_Parse.calls kj18 (((t109.extract 0 9) ++ (strOfNums y123)) ++ (t109.extract 10 t109.size)) t126 t127 t128 t131 t132 _ A66.out).mono ?_
          rintro e w120 ⟨v129, rfl, ho0, hb⟩
          refine ⟨_, rfl, ?_⟩
          have HO130 := Aside0.mk (Kd.N_lower (Kd.N_mono (ok' := fun k_ => some k_ ≠ (v124 : Value).ownBlock ∧ k_ ≠ gb133) (Kd.S_N (Kd.S_bound ho0)) (fun k_ hk_ => ⟨(Kd.fresh' (Kd.R_lt (qR HO125.out)) k_ hk_.2.1), (Kd.freshB (bq BK133.out) k_ hk_.2.1)⟩)) (below_size (qS1 GE133 HB.out)))
          replace HO125 := Aside0.mk (Kd.R_below (qR HO125.out) hb)
          replace BK133 := Aside0.mk (blk_below (bq BK133.out) hb)
          replace HB := Aside0.mk (below_step (qS1 GE133 HB.out) hb)
          (try clear hb)
          (try clear hb2)
          (try clear hk)
          (try clear hi)
          (try clear ho0)
          refine hK.out _ _ trivial (fun hHeld => ?_)
          clear hK K
          refine normS (some 96) ?_
          refine pureS 12 (some 84) (bs 73727 20) ?_
          refine pureS 13 (some 97) (bs 81919 20) ?_
          refine pureS 14 (some 98) (bs 98303 20) ?_
          refine pureS 15 (some 99) (bs 131071 20) ?_
          exact norm_ qq1 (hCont (v124, v129, gb133) _ ⟨(qR HO125.out), (qN HO130.out), (bq BK133.out), GW133.out, GE133.out, (qS1 GE133 HB.out)⟩)
        skip
        have hcv118 := own_string (P := Try.prog) Try.underlying39 Try.underlying5 Try.underlying9 (Kd.own_of_R HO125.out)
        refine value_ (w1 := ?_) (v := ?_) (by rfl) rfl ?_ ?_
        rotate_left 2
        · go_simp
          constructor
          · rfl
          rfl
        clear hcv118
        refine hK.out _ _ trivial (fun hHeld => ?_)
        clear hK K
        refine normS (some 91) ?_
        refine pureS 7 (some 92) (bs 1023 20) ?_
        refine pureS 10 (some 95) (bs 2047 20) ?_
        refine two_ (i := 11) (j := 16) (Ni := some 96) (Nj := some 15) (bs 4095 20) (bs 67583 20) rfl rfl rfl rfl (two_of HT_.out (by kernel_rfl)) (by decide) (by decide) (fun K hK => ?_) (fun K hK => ?_)
        · skip
          refine goes_ Try.func21 (by kernel_rfl) rfl #[.string (((t109.extract 0 9) ++ (strOfNums y123)) ++ (t109.extract 10 t109.size))] (by rfl) rfl rfl qq0 ?_
          with_reducible refine (smf_Parse.calls kj18 (((t109.extract 0 9) ++ (strOfNums y123)) ++ (t109.extract 10 t109.size)) t126 t127 t128 t131 t132 _ A66.out).mono ?_
          rintro e w119 ⟨v129, rfl, ho0, hb⟩
          refine ⟨_, rfl, ?_⟩
          have HO130 := Aside0.mk (Kd.N_lower (Kd.N_mono (ok' := fun k_ => some k_ ≠ (v124 : Value).ownBlock) (Kd.S_N (Kd.S_bound ho0)) (fun k_ hk_ => (Kd.fresh' (Kd.R_lt (qR HO125.out)) k_ hk_.2.1))) (below_size (qB HB.out)))
          replace HO125 := Aside0.mk (Kd.R_below (qR HO125.out) hb)
          replace HB := Aside0.mk (below_step (qB HB.out) hb)
          (try clear hb)
          (try clear hb2)
          (try clear hk)
          (try clear hi)
          (try clear ho0)
          refine hK.out _ _ trivial (fun hHeld => ?_)
          clear hK K
          refine normS (some 96) ?_
          refine pureS 12 (some 84) (bs 8191 20) ?_
          refine pureS 13 (some 97) (bs 16383 20) ?_
          refine pureS 14 (some 98) (bs 32767 20) ?_
          refine pureS 15 (some 99) (bs 65535 20) ?_
          refine one_ (i := 16) (N := some 15) (bs 131071 20) rfl rfl (one_of HT_.out (by kernel_rfl)) (by decide) (fun K hK => ?_)
          refine box_step ?hg (N := 15) ?hd (cs := #[.int .i64 0, .int .i64 0, .slice none 0 0]) (t := 24) ?hr ?_; (case hd => rfl); (case hg => rfl); (case hr => exact qq6)
          intro gb133 hg w120 hbox hb
          replace HO125 := Aside0.mk (Kd.R_below (qR HO125.out) hb)
          replace HO130 := Aside0.mk (Kd.N_below (Kd.N_elderB (qN HO130.out) gb133 (Nat.le_of_eq hg.symm)) hb)
          have BK133 := Aside0.mk (hbox)
          have GW133 := Aside0.mk ((qq9 : w.heap.size ≤ gb133))
          have GE133 := Aside0.mk ((qq9 : w.heap.size ≤ gb133))
          replace HB := Aside0.mk (below_step (qB HB.out) hb)
          clear hb hbox hg
          refine hK.out _ _ trivial (fun hHeld => ?_)
          clear hK K
          refine normS (some 15) ?_
          exact norm_ qq1 (hCont (v124, v129, gb133) _ ⟨(qR HO125.out), (qN HO130.out), (bq BK133.out), GW133.out, GE133.out, (qS1 GE133 HB.out)⟩)
        skip
        refine box_step ?hg (N := 15) ?hd (cs := #[.int .i64 0, .int .i64 0, .slice none 0 0]) (t := 24) ?hr ?_; (case hd => rfl); (case hg => rfl); (case hr => exact qq6)
        intro gb133 hg w119 hbox hb
        replace HO125 := Aside0.mk (Kd.R_below (qR HO125.out) hb)
        have BK133 := Aside0.mk (hbox)
        have GW133 := Aside0.mk ((qq9 : w.heap.size ≤ gb133))
        have GE133 := Aside0.mk ((qq9 : w.heap.size ≤ gb133))
        replace HB := Aside0.mk (below_step (qB HB.out) hb)
        clear hb hbox hg
        refine hK.out _ _ trivial (fun hHeld => ?_)
        clear hK K
        refine normS (some 15) ?_
        refine one_ (i := 11) (N := some 96) (bs 69631 20) rfl rfl (one_of HT_.out (by kernel_rfl)) (by decide) (fun K hK => ?_)
        refine goes_ Try.func21 (by kernel_rfl) rfl #[.string (((t109.extract 0 9) ++ (strOfNums y123)) ++ (t109.extract 10 t109.size))] (by rfl) rfl rfl qq0 ?_
        with_reducible refine (smf_Parse.calls kj18 (((t109.extract 0 9) ++ (strOfNums y123)) ++ (t109.extract 10 t109.size)) t126 t127 t128 t131 t132 _ A66.out).mono ?_
        rintro e w120 ⟨v129, rfl, ho0, hb⟩
        refine ⟨_, rfl, ?_⟩
        have HO130 := Aside0.mk (Kd.N_lower (Kd.N_mono (ok' := fun k_ => some k_ ≠ (v124 : Value).ownBlock ∧ k_ ≠ gb133) (Kd.S_N (Kd.S_bound ho0)) (fun k_ hk_ => ⟨(Kd.fresh' (Kd.R_lt (qR HO125.out)) k_ hk_.2.1), (Kd.freshB (bq BK133.out) k_ hk_.2.1)⟩)) (below_size (qS1 GE133 HB.out)))
        replace HO125 := Aside0.mk (Kd.R_below (qR HO125.out) hb)
        replace BK133 := Aside0.mk (blk_below (bq BK133.out) hb)
        replace HB := Aside0.mk (below_step (qS1 GE133 HB.out) hb)
        (try clear hb)
        (try clear hb2)
        (try clear hk)
        (try clear hi)
        (try clear ho0)
        refine hK.out _ _ trivial (fun hHeld => ?_)
        clear hK K
        refine normS (some 96) ?_
        refine pureS 12 (some 84) (bs 73727 20) ?_
        refine pureS 13 (some 97) (bs 81919 20) ?_
        refine pureS 14 (some 98) (bs 98303 20) ?_
        refine pureS 15 (some 99) (bs 131071 20) ?_
        exact norm_ qq1 (hCont (v124, v129, gb133) _ ⟨(qR HO125.out), (qN HO130.out), (bq BK133.out), GW133.out, GE133.out, (qS1 GE133 HB.out)⟩)
      rintro ⟨v124, v129, gb133⟩ w121 ⟨h0_, h1_, h2_, h3_, h4_, h5_⟩
      have n0_ : Aside0 (Kd.R (Kd.int .u8) 5 w121 w.heap.size (fun _ => True) v124 y123) := ⟨h0_⟩
      have n1_ : Aside0 (Kd.N (Kd.slice 28 k28) 30 w121 w.heap.size (fun k_ => some k_ ≠ (v124 : Value).ownBlock ∧ k_ ≠ gb133) v129 t128) := ⟨h1_⟩
      have n2_ : Aside0 (w121.heap[gb133]? = some (.cells #[.int .i64 0, .int .i64 0, .slice none 0 0] 24 (0, 0))) := ⟨h2_⟩
      have n3_ : Aside0 (w.heap.size ≤ gb133) := ⟨h3_⟩
      have n4_ : Aside0 (w.heap.size ≤ gb133) := ⟨h4_⟩
      have n5_ : Aside0 (Below w.heap.size w w121) := ⟨h5_⟩
      clear HB
      clear h0_ h1_ h2_ h3_ h4_ h5_
      have HO125 := n0_
      have HO130 := n1_
      have BK133 := n2_
      have GW133 := n3_
      have GE133 := n4_
      have HB := n5_
      clear n0_ n1_ n2_ n3_ n4_ n5_
      have hHeld := trivial
      obtain ⟨Ao124, co124, eo124⟩ := Kd.N_slice HO130.out
      (first | subst eo124 | (injection eo124 with f1_ f2_ f3_; have f4_ := f1_.symm; have f5_ := f3_.symm; clear f1_ f2_ f3_; subst f4_; subst f5_))
      refine norm_ (a' := ?_) ?_ ?_
      rotate_left
      · simp only [putAll, Act.put, List.setIfInBounds_toArray, List.set_cons_zero, List.set_cons_succ]
        rfl
      refine one_ (i := 17) (N := none) (bs 262143 20) rfl rfl (one_of HT_.out (by kernel_rfl)) (by decide) (fun K hK => ?_)
      have hs122 : w121.cell? ⟨gb133, 0, none⟩ = some (.int .i64 0) := (blk_cell BK133.out 0).trans rfl
      have hfs122 := blk_frozen BK133.out 0
      have hs123 : w121.cell? ⟨gb133, 1, none⟩ = some (.int .i64 0) := (blk_cell BK133.out 1).trans rfl
      have hfs123 := blk_frozen BK133.out 1
      have hs125 : w121.cell? ⟨gb133, 2, none⟩ = some (.slice none 0 0) := (blk_cell BK133.out 2).trans rfl
      have hfs125 := blk_frozen BK133.out 2
      refine skip_ (w1 := ?_) (by rfl) rfl ?_ ?_
      rotate_left
      · go_simp
        rfl
      refine hK.out _ _ trivial (fun hHeld => ?_)
      clear hK K
      refine pureS 18 (some 16) (bs 524287 20) ?_
      refine pureS 19 (some 17) (bs 1048575 20) ?_
      refine done_ (done_of HT_.out (by kernel_rfl)) ?_
      try go_wp2
      have n0_ : Aside0 (Kd.R (Kd.int .u8) 5 (((w121.setCell ⟨gb133, 0, none⟩ (.int .i64 t126)).setCell ⟨gb133, 1, none⟩ (.int .i64 t127)).setCell ⟨gb133, 2, none⟩ (.slice Ao124 t128.length co124)) w.heap.size (fun _ => True) v124 y123) := ⟨by (with_reducible repeat (first | apply Kd.R_alloc | apply Kd.R_drewN | apply Kd.R_drew)); exact Kd.R_mono (Kd.R_far (p := ⟨gb133, 2, none⟩) (Kd.R_far (p := ⟨gb133, 1, none⟩) (Kd.R_far (p := ⟨gb133, 0, none⟩) (Kd.R_types HO125.out BK133.out (by decide)) (fun _ hk => hk.2) (.int .i64 t126)) (fun _ hk => hk.2) (.int .i64 t127)) (fun _ hk => hk.2) (.slice Ao124 t128.length co124)) (fun _ hk => trivial)⟩
      have n1_ : Aside0 (Kd.N (Kd.slice 28 k28) 30 (((w121.setCell ⟨gb133, 0, none⟩ (.int .i64 t126)).setCell ⟨gb133, 1, none⟩ (.int .i64 t127)).setCell ⟨gb133, 2, none⟩ (.slice Ao124 t128.length co124)) w.heap.size (fun k_ => some k_ ≠ (v124 : Value).ownBlock ∧ k_ ≠ gb133) (.slice Ao124 t128.length co124) t128) := ⟨by (with_reducible repeat (first | apply Kd.N_alloc | apply Kd.N_drewN | apply Kd.N_drew)); exact Kd.N_mono (Kd.N_far (p := ⟨gb133, 2, none⟩) (Kd.N_far (p := ⟨gb133, 1, none⟩) (Kd.N_far (p := ⟨gb133, 0, none⟩) (Kd.N_mono HO130.out (fun k_ hk => (⟨hk, hk.2⟩ : _ ∧ k_ ≠ gb133))) (fun _ hk => hk.2) (.int .i64 t126)) (fun _ hk => hk.2) (.int .i64 t127)) (fun _ hk => hk.2) (.slice Ao124 t128.length co124)) (fun _ hk => ⟨hk.1.1, hk.1.2⟩)⟩
      have n2_ : Aside0 ((((w121.setCell ⟨gb133, 0, none⟩ (.int .i64 t126)).setCell ⟨gb133, 1, none⟩ (.int .i64 t127)).setCell ⟨gb133, 2, none⟩ (.slice Ao124 t128.length co124)).heap[gb133]? = some (.cells #[.int .i64 t126, .int .i64 t127, .slice Ao124 t128.length co124] 24 (0, 0))) := ⟨by (with_reducible repeat (first | refine blk_drewN ?_ _ | refine blk_drew ?_ | refine blk_alloc ?_ _)); refine blk_put (cs := #[.int .i64 t126, .int .i64 t127, .slice none 0 0]) ?_ 2 _ rfl; (with_reducible repeat (first | refine blk_drewN ?_ _ | refine blk_drew ?_ | refine blk_alloc ?_ _)); refine blk_put (cs := #[.int .i64 t126, .int .i64 0, .slice none 0 0]) ?_ 1 _ rfl; (with_reducible repeat (first | refine blk_drewN ?_ _ | refine blk_drew ?_ | refine blk_alloc ?_ _)); refine blk_put (cs := #[.int .i64 0, .int .i64 0, .slice none 0 0]) ?_ 0 _ rfl; (with_reducible repeat (first | refine blk_drewN ?_ _ | refine blk_drew ?_ | refine blk_alloc ?_ _)); exact BK133.out⟩
      have n3_ : Aside0 (Below w.heap.size w (((w121.setCell ⟨gb133, 0, none⟩ (.int .i64 t126)).setCell ⟨gb133, 1, none⟩ (.int .i64 t127)).setCell ⟨gb133, 2, none⟩ (.slice Ao124 t128.length co124))) := ⟨qS1 GE133 HB.out⟩
      (try clear HO125)
      (try clear HO130)
      (try clear BK133)
      (try clear HB)
      generalize (((w121.setCell ⟨gb133, 0, none⟩ (.int .i64 t126)).setCell ⟨gb133, 1, none⟩ (.int .i64 t127)).setCell ⟨gb133, 2, none⟩ (.slice Ao124 t128.length co124)) = w126 at n0_ n1_ n2_ n3_ ⊢
      have HO125 := n0_
      have HO130 := n1_
      have BK133 := n2_
      have HB := n3_
      clear n0_ n1_ n2_ n3_
      clear HO125
      clear HO130
      clear BK133
      replace HB := Aside0.mk (below_drew1 HB.out)
      refine start_ (n := 15) (S := fun w' => True) (ds := []) #[false, false, false, false, false, false, false, false, false, false, false, false, false, false, false] (by kernel_rfl) rfl rfl trivial (fun hHeld => ?_); refine with_tabW partitalaw16_SmfHead.tab15 partitalaw16_SmfHead.bits15 (fun HT_ HW_ => ?_)
      generalize w126.drew = w127 at HB hHeld ⊢
      refine pureS 0 (some 101) (bs 1 15) ?_
      refine pureS 1 (some 102) (bs 3 15) ?_
      refine pureS 2 (some 103) (bs 7 15) ?_
      refine pureS 3 (some 104) (bs 15 15) ?_
      refine pureS 4 (some 105) (bs 31 15) ?_
      refine pureS 5 (some 106) (bs 63 15) ?_
      refine join_ (σ := Value × Nat) 3 (bs 4095 15) (fun s_ => [(107, .tuple #[.agg #[.int .i64 t134, .int .i64 t135, s_.1], .int .i64 t139, .int .i64 t140]), (18, .pointer (some ⟨s_.2, 0, none⟩)), (100, .tuple #[.agg #[.int .i64 t134, .int .i64 t135, s_.1], .int .i64 t139, .int .i64 t140]), (108, .agg #[.int .i64 t134, .int .i64 t135, s_.1]), (109, .int .i64 t139), (110, .int .i64 t140)]) (fun s_ w' => (Kd.N (Kd.slice 28 k28) 30 w' w.heap.size (fun k_ => k_ ≠ s_.2) s_.1 t136) ∧ (w'.heap[s_.2]? = some (.cells #[.int .i64 0, .int .i64 0, .slice none 0 0] 24 (0, 0))) ∧ (w.heap.size ≤ s_.2) ∧ (w.heap.size ≤ s_.2) ∧ (Below w.heap.size w w')) ?_ ?_
      rotate_left
      · intro hCont
        refine two_ (i := 6) (j := 11) (Ni := some 107) (Nj := some 18) (bs 127 15) (bs 2111 15) rfl rfl rfl rfl (two_of HT_.out (by kernel_rfl)) (by decide) (by decide) (fun K hK => ?_) (fun K hK => ?_)
        · skip
          refine goes_ Try.func21 (by kernel_rfl) rfl #[.string (((t109.extract 0 11) ++ (⟨#[0]⟩ : ByteArray)) ++ (t109.extract 12 t109.size))] (by rfl) rfl rfl qq0 ?_
          with_reducible refine (smf_Parse.calls kj18 (((t109.extract 0 11) ++ (⟨#[0]⟩ : ByteArray)) ++ (t109.extract 12 t109.size)) t134 t135 t136 t139 t140 _ A72.out).mono ?_
          rintro e w128 ⟨v137, rfl, ho0, hb⟩
          refine ⟨_, rfl, ?_⟩
          have HO138 := Aside0.mk (Kd.N_lower (Kd.N_mono (ok' := fun k_ => True) (Kd.S_N (Kd.S_bound ho0)) (fun k_ hk_ => trivial)) (below_size (qB HB.out)))
          replace HB := Aside0.mk (below_step (qB HB.out) hb)
          (try clear hb)
          (try clear hb2)
          (try clear hk)
          (try clear hi)
          (try clear ho0)
          refine hK.out _ _ trivial (fun hHeld => ?_)
          clear hK K
          refine normS (some 107) ?_
          refine pureS 7 (some 100) (bs 255 15) ?_
          refine pureS 8 (some 108) (bs 511 15) ?_
          refine pureS 9 (some 109) (bs 1023 15) ?_
          refine pureS 10 (some 110) (bs 2047 15) ?_
          refine one_ (i := 11) (N := some 18) (bs 4095 15) rfl rfl (one_of HT_.out (by kernel_rfl)) (by decide) (fun K hK => ?_)
          refine box_step ?hg (N := 18) ?hd (cs := #[.int .i64 0, .int .i64 0, .slice none 0 0]) (t := 24) ?hr ?_; (case hd => rfl); (case hg => rfl); (case hr => exact qq6)
          intro gb141 hg w129 hbox hb
          replace HO138 := Aside0.mk (Kd.N_below (Kd.N_elderB (qN HO138.out) gb141 (Nat.le_of_eq hg.symm)) hb)
          have BK141 := Aside0.mk (hbox)
          have GW141 := Aside0.mk ((qq9 : w.heap.size ≤ gb141))
          have GE141 := Aside0.mk ((qq9 : w.heap.size ≤ gb141))
          replace HB := Aside0.mk (below_step (qB HB.out) hb)
          clear hb hbox hg
          refine hK.out _ _ trivial (fun hHeld => ?_)
          clear hK K
          refine normS (some 18) ?_
          exact norm_ qq1 (hCont (v137, gb141) _ ⟨(by (with_reducible repeat (first | apply Kd.N_alloc | apply Kd.N_drewN | apply Kd.N_drew)); exact Kd.N_mono HO138.out (fun _ hk => hk.2)), (bq BK141.out), GW141.out, GE141.out, (qS1 GE141 HB.out)⟩)
        skip
        refine box_step ?hg (N := 18) ?hd (cs := #[.int .i64 0, .int .i64 0, .slice none 0 0]) (t := 24) ?hr ?_; (case hd => rfl); (case hg => rfl); (case hr => exact qq6)
        intro gb141 hg w128 hbox hb
        have BK141 := Aside0.mk (hbox)
        have GW141 := Aside0.mk ((qq9 : w.heap.size ≤ gb141))
        have GE141 := Aside0.mk ((qq9 : w.heap.size ≤ gb141))
        replace HB := Aside0.mk (below_step (qB HB.out) hb)
        clear hb hbox hg
        refine hK.out _ _ trivial (fun hHeld => ?_)
        clear hK K
        refine normS (some 18) ?_
        refine one_ (i := 6) (N := some 107) (bs 2175 15) rfl rfl (one_of HT_.out (by kernel_rfl)) (by decide) (fun K hK => ?_)
        refine goes_ Try.func21 (by kernel_rfl) rfl #[.string (((t109.extract 0 11) ++ (⟨#[0]⟩ : ByteArray)) ++ (t109.extract 12 t109.size))] (by rfl) rfl rfl qq0 ?_
        with_reducible refine (smf_Parse.calls kj18 (((t109.extract 0 11) ++ (⟨#[0]⟩ : ByteArray)) ++ (t109.extract 12 t109.size)) t134 t135 t136 t139 t140 _ A72.out).mono ?_
        rintro e w129 ⟨v137, rfl, ho0, hb⟩
        refine ⟨_, rfl, ?_⟩
        have HO138 := Aside0.mk (Kd.N_lower (Kd.N_mono (ok' := fun k_ => k_ ≠ gb141) (Kd.S_N (Kd.S_bound ho0)) (fun k_ hk_ => (Kd.freshB (bq BK141.out) k_ hk_.2.1))) (below_size (qS1 GE141 HB.out)))
        replace BK141 := Aside0.mk (blk_below (bq BK141.out) hb)
        replace HB := Aside0.mk (below_step (qS1 GE141 HB.out) hb)
        (try clear hb)
        (try clear hb2)
        (try clear hk)
        (try clear hi)
        (try clear ho0)
        refine hK.out _ _ trivial (fun hHeld => ?_)
        clear hK K
        refine normS (some 107) ?_
        refine pureS 7 (some 100) (bs 2303 15) ?_
        refine pureS 8 (some 108) (bs 2559 15) ?_
        refine pureS 9 (some 109) (bs 3071 15) ?_
        refine pureS 10 (some 110) (bs 4095 15) ?_
        exact norm_ qq1 (hCont (v137, gb141) _ ⟨(qN HO138.out), (bq BK141.out), GW141.out, GE141.out, (qS1 GE141 HB.out)⟩)
      rintro ⟨v137, gb141⟩ w130 ⟨h0_, h1_, h2_, h3_, h4_⟩
      have n0_ : Aside0 (Kd.N (Kd.slice 28 k28) 30 w130 w.heap.size (fun k_ => k_ ≠ gb141) v137 t136) := ⟨h0_⟩
      have n1_ : Aside0 (w130.heap[gb141]? = some (.cells #[.int .i64 0, .int .i64 0, .slice none 0 0] 24 (0, 0))) := ⟨h1_⟩
      have n2_ : Aside0 (w.heap.size ≤ gb141) := ⟨h2_⟩
      have n3_ : Aside0 (w.heap.size ≤ gb141) := ⟨h3_⟩
      have n4_ : Aside0 (Below w.heap.size w w130) := ⟨h4_⟩
      clear HB
      clear h0_ h1_ h2_ h3_ h4_
      have HO138 := n0_
      have BK141 := n1_
      have GW141 := n2_
      have GE141 := n3_
      have HB := n4_
      clear n0_ n1_ n2_ n3_ n4_
      have hHeld := trivial
      obtain ⟨Ao133, co133, eo133⟩ := Kd.N_slice HO138.out
      (first | subst eo133 | (injection eo133 with f1_ f2_ f3_; have f4_ := f1_.symm; have f5_ := f3_.symm; clear f1_ f2_ f3_; subst f4_; subst f5_))
      refine norm_ (a' := ?_) ?_ ?_
      rotate_left
      · simp only [putAll, Act.put, List.setIfInBounds_toArray, List.set_cons_zero, List.set_cons_succ]
        rfl
      refine one_ (i := 12) (N := none) (bs 8191 15) rfl rfl (one_of HT_.out (by kernel_rfl)) (by decide) (fun K hK => ?_)
      have hs131 : w130.cell? ⟨gb141, 0, none⟩ = some (.int .i64 0) := (blk_cell BK141.out 0).trans rfl
      have hfs131 := blk_frozen BK141.out 0
      have hs132 : w130.cell? ⟨gb141, 1, none⟩ = some (.int .i64 0) := (blk_cell BK141.out 1).trans rfl
      have hfs132 := blk_frozen BK141.out 1
      have hs134 : w130.cell? ⟨gb141, 2, none⟩ = some (.slice none 0 0) := (blk_cell BK141.out 2).trans rfl
      have hfs134 := blk_frozen BK141.out 2
      refine skip_ (w1 := ?_) (by rfl) rfl ?_ ?_
      rotate_left
      · go_simp
        rfl
      refine hK.out _ _ trivial (fun hHeld => ?_)
      clear hK K
      refine pureS 13 (some 19) (bs 16383 15) ?_
      refine pureS 14 (some 20) (bs 32767 15) ?_
      refine done_ (done_of HT_.out (by kernel_rfl)) ?_
      try go_wp2
      have n0_ : Aside0 (Kd.N (Kd.slice 28 k28) 30 (((w130.setCell ⟨gb141, 0, none⟩ (.int .i64 t134)).setCell ⟨gb141, 1, none⟩ (.int .i64 t135)).setCell ⟨gb141, 2, none⟩ (.slice Ao133 t136.length co133)) w.heap.size (fun k_ => k_ ≠ gb141) (.slice Ao133 t136.length co133) t136) := ⟨by (with_reducible repeat (first | apply Kd.N_alloc | apply Kd.N_drewN | apply Kd.N_drew)); exact Kd.N_mono (Kd.N_far (p := ⟨gb141, 2, none⟩) (Kd.N_far (p := ⟨gb141, 1, none⟩) (Kd.N_far (p := ⟨gb141, 0, none⟩) (Kd.N_mono HO138.out (fun k_ hk => (⟨hk, hk⟩ : _ ∧ k_ ≠ gb141))) (fun _ hk => hk.2) (.int .i64 t134)) (fun _ hk => hk.2) (.int .i64 t135)) (fun _ hk => hk.2) (.slice Ao133 t136.length co133)) (fun _ hk => hk.1)⟩
      have n1_ : Aside0 ((((w130.setCell ⟨gb141, 0, none⟩ (.int .i64 t134)).setCell ⟨gb141, 1, none⟩ (.int .i64 t135)).setCell ⟨gb141, 2, none⟩ (.slice Ao133 t136.length co133)).heap[gb141]? = some (.cells #[.int .i64 t134, .int .i64 t135, .slice Ao133 t136.length co133] 24 (0, 0))) := ⟨by (with_reducible repeat (first | refine blk_drewN ?_ _ | refine blk_drew ?_ | refine blk_alloc ?_ _)); refine blk_put (cs := #[.int .i64 t134, .int .i64 t135, .slice none 0 0]) ?_ 2 _ rfl; (with_reducible repeat (first | refine blk_drewN ?_ _ | refine blk_drew ?_ | refine blk_alloc ?_ _)); refine blk_put (cs := #[.int .i64 t134, .int .i64 0, .slice none 0 0]) ?_ 1 _ rfl; (with_reducible repeat (first | refine blk_drewN ?_ _ | refine blk_drew ?_ | refine blk_alloc ?_ _)); refine blk_put (cs := #[.int .i64 0, .int .i64 0, .slice none 0 0]) ?_ 0 _ rfl; (with_reducible repeat (first | refine blk_drewN ?_ _ | refine blk_drew ?_ | refine blk_alloc ?_ _)); exact BK141.out⟩
      have n2_ : Aside0 (Below w.heap.size w (((w130.setCell ⟨gb141, 0, none⟩ (.int .i64 t134)).setCell ⟨gb141, 1, none⟩ (.int .i64 t135)).setCell ⟨gb141, 2, none⟩ (.slice Ao133 t136.length co133))) := ⟨qS1 GE141 HB.out⟩
      (try clear HO138)
      (try clear BK141)
      (try clear HB)
      generalize (((w130.setCell ⟨gb141, 0, none⟩ (.int .i64 t134)).setCell ⟨gb141, 1, none⟩ (.int .i64 t135)).setCell ⟨gb141, 2, none⟩ (.slice Ao133 t136.length co133)) = w135 at n0_ n1_ n2_ ⊢
      have HO138 := n0_
      have BK141 := n1_
      have HB := n2_
      clear n0_ n1_ n2_
      clear HO138
      clear BK141
      replace HB := Aside0.mk (below_drew1 HB.out)
      refine start_ (n := 20) (S := fun w' => True) (ds := []) #[false, false, false, false, false, false, false, false, false, false, false, false, false, false, false, false, false, false, false, false] (by kernel_rfl) rfl rfl trivial (fun hHeld => ?_); refine with_tabW partitalaw16_SmfHead.tab16 partitalaw16_SmfHead.bits16 (fun HT_ HW_ => ?_)
      generalize w135.drew = w136 at HB hHeld ⊢
      refine pureS 0 (some 112) (bs 1 20) ?_
      refine pureS 1 (some 113) (bs 3 20) ?_
      refine pureS 2 (some 114) (bs 7 20) ?_
      refine pureS 3 (some 115) (bs 15 20) ?_
      refine pureS 4 (some 116) (bs 31 20) ?_
      refine pureS 8 (some 120) (bs 287 20) ?_
      refine pureS 9 (some 121) (bs 799 20) ?_
      refine join_ (σ := Value × Value × Nat) 3 (bs 131071 20) (fun s_ => [(117, s_.1), (118, .string (strOfNums y142)), (123, .tuple #[.agg #[.int .i64 t145, .int .i64 t146, s_.2.1], .int .i64 t150, .int .i64 t151]), (21, .pointer (some ⟨s_.2.2, 0, none⟩)), (119, .string ((t109.extract 0 11) ++ (strOfNums y142))), (122, .string (((t109.extract 0 11) ++ (strOfNums y142)) ++ (t109.extract 12 t109.size))), (111, .tuple #[.agg #[.int .i64 t145, .int .i64 t146, s_.2.1], .int .i64 t150, .int .i64 t151]), (124, .agg #[.int .i64 t145, .int .i64 t146, s_.2.1]), (125, .int .i64 t150), (126, .int .i64 t151)]) (fun s_ w' => (Kd.R (Kd.int .u8) 5 w' w.heap.size (fun _ => True) s_.1 y142) ∧ (Kd.N (Kd.slice 28 k28) 30 w' w.heap.size (fun k_ => some k_ ≠ (s_.1 : Value).ownBlock ∧ k_ ≠ s_.2.2) s_.2.1 t147) ∧ (w'.heap[s_.2.2]? = some (.cells #[.int .i64 0, .int .i64 0, .slice none 0 0] 24 (0, 0))) ∧ (w.heap.size ≤ s_.2.2) ∧ (w.heap.size ≤ s_.2.2) ∧ (Below w.heap.size w w')) ?_ ?_
      rotate_left
      · intro hCont
        refine two_ (i := 5) (j := 16) (Ni := some 117) (Nj := some 21) (bs 831 20) (bs 66335 20) rfl rfl rfl rfl (two_of HT_.out (by kernel_rfl)) (by decide) (by decide) (fun K hK => ?_) (fun K hK => ?_)
        rotate_left
        · skip
          refine box_step ?hg (N := 21) ?hd (cs := #[.int .i64 0, .int .i64 0, .slice none 0 0]) (t := 24) ?hr ?_; (case hd => rfl); (case hg => rfl); (case hr => exact qq6)
          intro gb152 hg w137 hbox hb
          have BK152 := Aside0.mk (hbox)
          have GW152 := Aside0.mk ((qq9 : w.heap.size ≤ gb152))
          have GE152 := Aside0.mk ((qq9 : w.heap.size ≤ gb152))
          replace HB := Aside0.mk (below_step (qB HB.out) hb)
          clear hb hbox hg
          refine hK.out _ _ trivial (fun hHeld => ?_)
          clear hK K
          refine normS (some 21) ?_
          refine one_ (i := 5) (N := some 117) (bs 66367 20) rfl rfl (one_of HT_.out (by kernel_rfl)) (by decide) (fun K hK => ?_)
          refine Kd.R_lit_step (Kd.int .u8) _ 5 ?hg (N := 117) ?hd (xs := ([(17 + (Int.tmod a2 239)) % 256] : List Int)) (inner := [.int .u8 ((17 + (Int.tmod a2 239)) % 256)]) (ok := fun _ => True) (okp := fun _ => True) ?hr ?hp (fun _ hk => hk) trivial (Below.refl _ _) (Nat.le_refl _) (by simp) ?_; (case hd => rfl); (case hg => rfl); (case hr => exact qq6); (case hp => exact qq1y)
          intro v143 w138 ho139 hb hg_ hnew_
          clear hg_ hnew_
          (first | rw [← Ny142.out] at ho139 | (simp only [Int.reduceToNat] at ho139; rw [← Ny142.out] at ho139))
          have HO144 := Aside0.mk (Kd.R_lower ho139 (below_size (qS1 GE152 HB.out)))
          replace BK152 := Aside0.mk (blk_below (bq BK152.out) hb)
          replace HB := Aside0.mk (below_step (qS1 GE152 HB.out) hb)
          clear hb ho139
          refine hK.out _ _ trivial (fun hHeld => ?_)
          clear hK K
          refine normS (some 117) ?_
          refine one_ (i := 6) (N := some 118) (bs 66431 20) rfl rfl (one_of HT_.out (by kernel_rfl)) (by decide) (fun K hK => ?_)
          have hcv140 := own_string (P := Try.prog) Try.underlying39 Try.underlying5 Try.underlying9 (Kd.own_of_R HO144.out)
          refine value_ (w1 := ?_) (v := ?_) (by rfl) rfl ?_ ?_
          rotate_left 2
          · go_simp
            constructor
            · rfl
            rfl
          clear hcv140
          refine hK.out _ _ trivial (fun hHeld => ?_)
          clear hK K
          refine normS (some 118) ?_
          refine pureS 7 (some 119) (bs 66559 20) ?_
          refine pureS 10 (some 122) (bs 67583 20) ?_
          refine one_ (i := 11) (N := some 123) (bs 69631 20) rfl rfl (one_of HT_.out (by kernel_rfl)) (by decide) (fun K hK => ?_)
          refine goes_ Try.func21 (by kernel_rfl) rfl #[.string (((t109.extract 0 11) ++ (strOfNums y142)) ++ (t109.extract 12 t109.size))] (by rfl) rfl rfl qq0 ?_
          with_reducible refine (smf_Parse.calls kj18 (((t109.extract 0 11) ++ (strOfNums y142)) ++ (t109.extract 12 t109.size)) t145 t146 t147 t150 t151 _ A78.out).mono ?_
          rintro e w141 ⟨v148, rfl, ho0, hb⟩
          refine ⟨_, rfl, ?_⟩
          have HO149 := Aside0.mk (Kd.N_lower (Kd.N_mono (ok' := fun k_ => some k_ ≠ (v143 : Value).ownBlock ∧ k_ ≠ gb152) (Kd.S_N (Kd.S_bound ho0)) (fun k_ hk_ => ⟨(Kd.fresh' (Kd.R_lt (qR HO144.out)) k_ hk_.2.1), (Kd.freshB (bq BK152.out) k_ hk_.2.1)⟩)) (below_size (qS1 GE152 HB.out)))
          replace HO144 := Aside0.mk (Kd.R_below (qR HO144.out) hb)
          replace BK152 := Aside0.mk (blk_below (bq BK152.out) hb)
          replace HB := Aside0.mk (below_step (qS1 GE152 HB.out) hb)
          (try clear hb)
          (try clear hb2)
          (try clear hk)
          (try clear hi)
          (try clear ho0)
          refine hK.out _ _ trivial (fun hHeld => ?_)
          clear hK K
          refine normS (some 123) ?_
          refine pureS 12 (some 111) (bs 73727 20) ?_
          refine pureS 13 (some 124) (bs 81919 20) ?_
          refine pureS 14 (some 125) (bs 98303 20) ?_
          refine pureS 15 (some 126) (bs 131071 20) ?_
          exact norm_ qq1 (hCont (v143, v148, gb152) _ ⟨(qR HO144.out), (qN HO149.out), (bq BK152.out), GW152.out, GE152.out, (qS1 GE152 HB.out)⟩)
        skip
        refine Kd.R_lit_step (Kd.int .u8) _ 5 ?hg (N := 117) ?hd (xs := ([(17 + (Int.tmod a2 239)) % 256] : List Int)) (inner := [.int .u8 ((17 + (Int.tmod a2 239)) % 256)]) (ok := fun _ => True) (okp := fun _ => True) ?hr ?hp (fun _ hk => hk) trivial (Below.refl _ _) (Nat.le_refl _) (by simp) ?_; (case hd => rfl); (case hg => rfl); (case hr => exact qq6); (case hp => exact qq1y)
        intro v143 w137 ho138 hb hg_ hnew_
        clear hg_ hnew_
        (first | rw [← Ny142.out] at ho138 | (simp only [Int.reduceToNat] at ho138; rw [← Ny142.out] at ho138))
        have HO144 := Aside0.mk (Kd.R_lower ho138 (below_size (qB HB.out)))
        replace HB := Aside0.mk (below_step (qB HB.out) hb)
        clear hb ho138
        refine hK.out _ _ trivial (fun hHeld => ?_)
        clear hK K
        refine normS (some 117) ?_
        refine two_ (i := 6) (j := 16) (Ni := some 118) (Nj := some 21) (bs 895 20) (bs 66367 20) rfl rfl rfl rfl (two_of HT_.out (by kernel_rfl)) (by decide) (by decide) (fun K hK => ?_) (fun K hK => ?_)
        rotate_left
        · skip
          refine box_step ?hg (N := 21) ?hd (cs := #[.int .i64 0, .int .i64 0, .slice none 0 0]) (t := 24) ?hr ?_; (case hd => rfl); (case hg => rfl); (case hr => exact qq6)
          intro gb152 hg w139 hbox hb
          replace HO144 := Aside0.mk (Kd.R_below (qR HO144.out) hb)
          have BK152 := Aside0.mk (hbox)
          have GW152 := Aside0.mk ((qq9 : w.heap.size ≤ gb152))
          have GE152 := Aside0.mk ((qq9 : w.heap.size ≤ gb152))
          replace HB := Aside0.mk (below_step (qB HB.out) hb)
          clear hb hbox hg
          refine hK.out _ _ trivial (fun hHeld => ?_)
          clear hK K
          refine normS (some 21) ?_
          refine one_ (i := 6) (N := some 118) (bs 66431 20) rfl rfl (one_of HT_.out (by kernel_rfl)) (by decide) (fun K hK => ?_)
          have hcv140 := own_string (P := Try.prog) Try.underlying39 Try.underlying5 Try.underlying9 (Kd.own_of_R HO144.out)
          refine value_ (w1 := ?_) (v := ?_) (by rfl) rfl ?_ ?_
          rotate_left 2
          · go_simp
            constructor
            · rfl
            rfl
          clear hcv140
          refine hK.out _ _ trivial (fun hHeld => ?_)
          clear hK K
          refine normS (some 118) ?_
          refine pureS 7 (some 119) (bs 66559 20) ?_
          refine pureS 10 (some 122) (bs 67583 20) ?_
          refine one_ (i := 11) (N := some 123) (bs 69631 20) rfl rfl (one_of HT_.out (by kernel_rfl)) (by decide) (fun K hK => ?_)
          refine goes_ Try.func21 (by kernel_rfl) rfl #[.string (((t109.extract 0 11) ++ (strOfNums y142)) ++ (t109.extract 12 t109.size))] (by rfl) rfl rfl qq0 ?_
          with_reducible refine (smf_Parse.calls kj18 (((t109.extract 0 11) ++ (strOfNums y142)) ++ (t109.extract 12 t109.size)) t145 t146 t147 t150 t151 _ A78.out).mono ?_
          rintro e w141 ⟨v148, rfl, ho0, hb⟩
          refine ⟨_, rfl, ?_⟩
          have HO149 := Aside0.mk (Kd.N_lower (Kd.N_mono (ok' := fun k_ => some k_ ≠ (v143 : Value).ownBlock ∧ k_ ≠ gb152) (Kd.S_N (Kd.S_bound ho0)) (fun k_ hk_ => ⟨(Kd.fresh' (Kd.R_lt (qR HO144.out)) k_ hk_.2.1), (Kd.freshB (bq BK152.out) k_ hk_.2.1)⟩)) (below_size (qS1 GE152 HB.out)))
          replace HO144 := Aside0.mk (Kd.R_below (qR HO144.out) hb)
          replace BK152 := Aside0.mk (blk_below (bq BK152.out) hb)
          replace HB := Aside0.mk (below_step (qS1 GE152 HB.out) hb)
          (try clear hb)
          (try clear hb2)
          (try clear hk)
          (try clear hi)
          (try clear ho0)
          refine hK.out _ _ trivial (fun hHeld => ?_)
          clear hK K
          refine normS (some 123) ?_
          refine pureS 12 (some 111) (bs 73727 20) ?_
          refine pureS 13 (some 124) (bs 81919 20) ?_
          refine pureS 14 (some 125) (bs 98303 20) ?_
          refine pureS 15 (some 126) (bs 131071 20) ?_
          exact norm_ qq1 (hCont (v143, v148, gb152) _ ⟨(qR HO144.out), (qN HO149.out), (bq BK152.out), GW152.out, GE152.out, (qS1 GE152 HB.out)⟩)
        skip
        have hcv139 := own_string (P := Try.prog) Try.underlying39 Try.underlying5 Try.underlying9 (Kd.own_of_R HO144.out)
        refine value_ (w1 := ?_) (v := ?_) (by rfl) rfl ?_ ?_
        rotate_left 2
        · go_simp
          constructor
          · rfl
          rfl
        clear hcv139
        refine hK.out _ _ trivial (fun hHeld => ?_)
        clear hK K
        refine normS (some 118) ?_
        refine pureS 7 (some 119) (bs 1023 20) ?_
        refine pureS 10 (some 122) (bs 2047 20) ?_
        refine two_ (i := 11) (j := 16) (Ni := some 123) (Nj := some 21) (bs 4095 20) (bs 67583 20) rfl rfl rfl rfl (two_of HT_.out (by kernel_rfl)) (by decide) (by decide) (fun K hK => ?_) (fun K hK => ?_)
        · skip
          refine goes_ Try.func21 (by kernel_rfl) rfl #[.string (((t109.extract 0 11) ++ (strOfNums y142)) ++ (t109.extract 12 t109.size))] (by rfl) rfl rfl qq0 ?_
          with_reducible refine (smf_Parse.calls kj18 (((t109.extract 0 11) ++ (strOfNums y142)) ++ (t109.extract 12 t109.size)) t145 t146 t147 t150 t151 _ A78.out).mono ?_
          rintro e w140 ⟨v148, rfl, ho0, hb⟩
          refine ⟨_, rfl, ?_⟩
          have HO149 := Aside0.mk (Kd.N_lower (Kd.N_mono (ok' := fun k_ => some k_ ≠ (v143 : Value).ownBlock) (Kd.S_N (Kd.S_bound ho0)) (fun k_ hk_ => (Kd.fresh' (Kd.R_lt (qR HO144.out)) k_ hk_.2.1))) (below_size (qB HB.out)))
          replace HO144 := Aside0.mk (Kd.R_below (qR HO144.out) hb)
          replace HB := Aside0.mk (below_step (qB HB.out) hb)
          (try clear hb)
          (try clear hb2)
          (try clear hk)
          (try clear hi)
          (try clear ho0)
          refine hK.out _ _ trivial (fun hHeld => ?_)
          clear hK K
          refine normS (some 123) ?_
          refine pureS 12 (some 111) (bs 8191 20) ?_
          refine pureS 13 (some 124) (bs 16383 20) ?_
          refine pureS 14 (some 125) (bs 32767 20) ?_
          refine pureS 15 (some 126) (bs 65535 20) ?_
          refine one_ (i := 16) (N := some 21) (bs 131071 20) rfl rfl (one_of HT_.out (by kernel_rfl)) (by decide) (fun K hK => ?_)
          refine box_step ?hg (N := 21) ?hd (cs := #[.int .i64 0, .int .i64 0, .slice none 0 0]) (t := 24) ?hr ?_; (case hd => rfl); (case hg => rfl); (case hr => exact qq6)
          intro gb152 hg w141 hbox hb
          replace HO144 := Aside0.mk (Kd.R_below (qR HO144.out) hb)
          replace HO149 := Aside0.mk (Kd.N_below (Kd.N_elderB (qN HO149.out) gb152 (Nat.le_of_eq hg.symm)) hb)
          have BK152 := Aside0.mk (hbox)
          have GW152 := Aside0.mk ((qq9 : w.heap.size ≤ gb152))
          have GE152 := Aside0.mk ((qq9 : w.heap.size ≤ gb152))
          replace HB := Aside0.mk (below_step (qB HB.out) hb)
          clear hb hbox hg
          refine hK.out _ _ trivial (fun hHeld => ?_)
          clear hK K
          refine normS (some 21) ?_
          exact norm_ qq1 (hCont (v143, v148, gb152) _ ⟨(qR HO144.out), (qN HO149.out), (bq BK152.out), GW152.out, GE152.out, (qS1 GE152 HB.out)⟩)
        skip
        refine box_step ?hg (N := 21) ?hd (cs := #[.int .i64 0, .int .i64 0, .slice none 0 0]) (t := 24) ?hr ?_; (case hd => rfl); (case hg => rfl); (case hr => exact qq6)
        intro gb152 hg w140 hbox hb
        replace HO144 := Aside0.mk (Kd.R_below (qR HO144.out) hb)
        have BK152 := Aside0.mk (hbox)
        have GW152 := Aside0.mk ((qq9 : w.heap.size ≤ gb152))
        have GE152 := Aside0.mk ((qq9 : w.heap.size ≤ gb152))
        replace HB := Aside0.mk (below_step (qB HB.out) hb)
        clear hb hbox hg
        refine hK.out _ _ trivial (fun hHeld => ?_)
        clear hK K
        refine normS (some 21) ?_
        refine one_ (i := 11) (N := some 123) (bs 69631 20) rfl rfl (one_of HT_.out (by kernel_rfl)) (by decide) (fun K hK => ?_)
        refine goes_ Try.func21 (by kernel_rfl) rfl #[.string (((t109.extract 0 11) ++ (strOfNums y142)) ++ (t109.extract 12 t109.size))] (by rfl) rfl rfl qq0 ?_
        with_reducible refine (smf_Parse.calls kj18 (((t109.extract 0 11) ++ (strOfNums y142)) ++ (t109.extract 12 t109.size)) t145 t146 t147 t150 t151 _ A78.out).mono ?_
        rintro e w141 ⟨v148, rfl, ho0, hb⟩
        refine ⟨_, rfl, ?_⟩
        have HO149 := Aside0.mk (Kd.N_lower (Kd.N_mono (ok' := fun k_ => some k_ ≠ (v143 : Value).ownBlock ∧ k_ ≠ gb152) (Kd.S_N (Kd.S_bound ho0)) (fun k_ hk_ => ⟨(Kd.fresh' (Kd.R_lt (qR HO144.out)) k_ hk_.2.1), (Kd.freshB (bq BK152.out) k_ hk_.2.1)⟩)) (below_size (qS1 GE152 HB.out)))
        replace HO144 := Aside0.mk (Kd.R_below (qR HO144.out) hb)
        replace BK152 := Aside0.mk (blk_below (bq BK152.out) hb)
        replace HB := Aside0.mk (below_step (qS1 GE152 HB.out) hb)
        (try clear hb)
        (try clear hb2)
        (try clear hk)
        (try clear hi)
        (try clear ho0)
        refine hK.out _ _ trivial (fun hHeld => ?_)
        clear hK K
        refine normS (some 123) ?_
        refine pureS 12 (some 111) (bs 73727 20) ?_
        refine pureS 13 (some 124) (bs 81919 20) ?_
        refine pureS 14 (some 125) (bs 98303 20) ?_
        refine pureS 15 (some 126) (bs 131071 20) ?_
        exact norm_ qq1 (hCont (v143, v148, gb152) _ ⟨(qR HO144.out), (qN HO149.out), (bq BK152.out), GW152.out, GE152.out, (qS1 GE152 HB.out)⟩)
      rintro ⟨v143, v148, gb152⟩ w142 ⟨h0_, h1_, h2_, h3_, h4_, h5_⟩
      have n0_ : Aside0 (Kd.R (Kd.int .u8) 5 w142 w.heap.size (fun _ => True) v143 y142) := ⟨h0_⟩
      have n1_ : Aside0 (Kd.N (Kd.slice 28 k28) 30 w142 w.heap.size (fun k_ => some k_ ≠ (v143 : Value).ownBlock ∧ k_ ≠ gb152) v148 t147) := ⟨h1_⟩
      have n2_ : Aside0 (w142.heap[gb152]? = some (.cells #[.int .i64 0, .int .i64 0, .slice none 0 0] 24 (0, 0))) := ⟨h2_⟩
      have n3_ : Aside0 (w.heap.size ≤ gb152) := ⟨h3_⟩
      have n4_ : Aside0 (w.heap.size ≤ gb152) := ⟨h4_⟩
      have n5_ : Aside0 (Below w.heap.size w w142) := ⟨h5_⟩
      clear HB
      clear h0_ h1_ h2_ h3_ h4_ h5_
      have HO144 := n0_
      have HO149 := n1_
      have BK152 := n2_
      have GW152 := n3_
      have GE152 := n4_
      have HB := n5_
      clear n0_ n1_ n2_ n3_ n4_ n5_
      have hHeld := trivial
      obtain ⟨Ao145, co145, eo145⟩ := Kd.N_slice HO149.out
      (first | subst eo145 | (injection eo145 with f1_ f2_ f3_; have f4_ := f1_.symm; have f5_ := f3_.symm; clear f1_ f2_ f3_; subst f4_; subst f5_))
      refine norm_ (a' := ?_) ?_ ?_
      rotate_left
      · simp only [putAll, Act.put, List.setIfInBounds_toArray, List.set_cons_zero, List.set_cons_succ]
        rfl
      refine one_ (i := 17) (N := none) (bs 262143 20) rfl rfl (one_of HT_.out (by kernel_rfl)) (by decide) (fun K hK => ?_)
      have hs143 : w142.cell? ⟨gb152, 0, none⟩ = some (.int .i64 0) := (blk_cell BK152.out 0).trans rfl
      have hfs143 := blk_frozen BK152.out 0
      have hs144 : w142.cell? ⟨gb152, 1, none⟩ = some (.int .i64 0) := (blk_cell BK152.out 1).trans rfl
      have hfs144 := blk_frozen BK152.out 1
      have hs146 : w142.cell? ⟨gb152, 2, none⟩ = some (.slice none 0 0) := (blk_cell BK152.out 2).trans rfl
      have hfs146 := blk_frozen BK152.out 2
      refine skip_ (w1 := ?_) (by rfl) rfl ?_ ?_
      rotate_left
      · go_simp
        rfl
      refine hK.out _ _ trivial (fun hHeld => ?_)
      clear hK K
      refine pureS 18 (some 22) (bs 524287 20) ?_
      refine pureS 19 (some 23) (bs 1048575 20) ?_
      refine done_ (done_of HT_.out (by kernel_rfl)) ?_
      try go_wp2
      have n0_ : Aside0 (Kd.R (Kd.int .u8) 5 (((w142.setCell ⟨gb152, 0, none⟩ (.int .i64 t145)).setCell ⟨gb152, 1, none⟩ (.int .i64 t146)).setCell ⟨gb152, 2, none⟩ (.slice Ao145 t147.length co145)) w.heap.size (fun _ => True) v143 y142) := ⟨by (with_reducible repeat (first | apply Kd.R_alloc | apply Kd.R_drewN | apply Kd.R_drew)); exact Kd.R_mono (Kd.R_far (p := ⟨gb152, 2, none⟩) (Kd.R_far (p := ⟨gb152, 1, none⟩) (Kd.R_far (p := ⟨gb152, 0, none⟩) (Kd.R_types HO144.out BK152.out (by decide)) (fun _ hk => hk.2) (.int .i64 t145)) (fun _ hk => hk.2) (.int .i64 t146)) (fun _ hk => hk.2) (.slice Ao145 t147.length co145)) (fun _ hk => trivial)⟩
      have n1_ : Aside0 (Kd.N (Kd.slice 28 k28) 30 (((w142.setCell ⟨gb152, 0, none⟩ (.int .i64 t145)).setCell ⟨gb152, 1, none⟩ (.int .i64 t146)).setCell ⟨gb152, 2, none⟩ (.slice Ao145 t147.length co145)) w.heap.size (fun k_ => some k_ ≠ (v143 : Value).ownBlock ∧ k_ ≠ gb152) (.slice Ao145 t147.length co145) t147) := ⟨by (with_reducible repeat (first | apply Kd.N_alloc | apply Kd.N_drewN | apply Kd.N_drew)); exact Kd.N_mono (Kd.N_far (p := ⟨gb152, 2, none⟩) (Kd.N_far (p := ⟨gb152, 1, none⟩) (Kd.N_far (p := ⟨gb152, 0, none⟩) (Kd.N_mono HO149.out (fun k_ hk => (⟨hk, hk.2⟩ : _ ∧ k_ ≠ gb152))) (fun _ hk => hk.2) (.int .i64 t145)) (fun _ hk => hk.2) (.int .i64 t146)) (fun _ hk => hk.2) (.slice Ao145 t147.length co145)) (fun _ hk => ⟨hk.1.1, hk.1.2⟩)⟩
      have n2_ : Aside0 ((((w142.setCell ⟨gb152, 0, none⟩ (.int .i64 t145)).setCell ⟨gb152, 1, none⟩ (.int .i64 t146)).setCell ⟨gb152, 2, none⟩ (.slice Ao145 t147.length co145)).heap[gb152]? = some (.cells #[.int .i64 t145, .int .i64 t146, .slice Ao145 t147.length co145] 24 (0, 0))) := ⟨by (with_reducible repeat (first | refine blk_drewN ?_ _ | refine blk_drew ?_ | refine blk_alloc ?_ _)); refine blk_put (cs := #[.int .i64 t145, .int .i64 t146, .slice none 0 0]) ?_ 2 _ rfl; (with_reducible repeat (first | refine blk_drewN ?_ _ | refine blk_drew ?_ | refine blk_alloc ?_ _)); refine blk_put (cs := #[.int .i64 t145, .int .i64 0, .slice none 0 0]) ?_ 1 _ rfl; (with_reducible repeat (first | refine blk_drewN ?_ _ | refine blk_drew ?_ | refine blk_alloc ?_ _)); refine blk_put (cs := #[.int .i64 0, .int .i64 0, .slice none 0 0]) ?_ 0 _ rfl; (with_reducible repeat (first | refine blk_drewN ?_ _ | refine blk_drew ?_ | refine blk_alloc ?_ _)); exact BK152.out⟩
      have n3_ : Aside0 (Below w.heap.size w (((w142.setCell ⟨gb152, 0, none⟩ (.int .i64 t145)).setCell ⟨gb152, 1, none⟩ (.int .i64 t146)).setCell ⟨gb152, 2, none⟩ (.slice Ao145 t147.length co145))) := ⟨qS1 GE152 HB.out⟩
      (try clear HO144)
      (try clear HO149)
      (try clear BK152)
      (try clear HB)
      generalize (((w142.setCell ⟨gb152, 0, none⟩ (.int .i64 t145)).setCell ⟨gb152, 1, none⟩ (.int .i64 t146)).setCell ⟨gb152, 2, none⟩ (.slice Ao145 t147.length co145)) = w147 at n0_ n1_ n2_ n3_ ⊢
      have HO144 := n0_
      have HO149 := n1_
      have BK152 := n2_
      have HB := n3_
      clear n0_ n1_ n2_ n3_
      clear HO144
      clear HO149
      clear BK152
      replace HB := Aside0.mk (below_drew1 HB.out)
      refine start_ (n := 20) (S := fun w' => True) (ds := []) #[false, false, false, false, false, false, false, false, false, false, false, false, false, false, false, false, false, false, false, false] (by kernel_rfl) rfl rfl trivial (fun hHeld => ?_); refine with_tabW partitalaw16_SmfHead.tab17 partitalaw16_SmfHead.bits17 (fun HT_ HW_ => ?_)
      generalize w147.drew = w148 at HB hHeld ⊢
      refine pureS 0 (some 128) (bs 1 20) ?_
      refine pureS 1 (some 129) (bs 3 20) ?_
      refine pureS 2 (some 130) (bs 7 20) ?_
      refine pureS 3 (some 131) (bs 15 20) ?_
      refine pureS 4 (some 132) (bs 31 20) ?_
      refine pureS 8 (some 136) (bs 287 20) ?_
      refine pureS 9 (some 137) (bs 799 20) ?_
      refine join_ (σ := Value × Value × Nat) 3 (bs 131071 20) (fun s_ => [(133, s_.1), (134, .string (strOfNums y153)), (139, .tuple #[.agg #[.int .i64 t156, .int .i64 t157, s_.2.1], .int .i64 t161, .int .i64 t162]), (24, .pointer (some ⟨s_.2.2, 0, none⟩)), (135, .string ((t109.extract 0 12) ++ (strOfNums y153))), (138, .string (((t109.extract 0 12) ++ (strOfNums y153)) ++ (t109.extract 13 t109.size))), (127, .tuple #[.agg #[.int .i64 t156, .int .i64 t157, s_.2.1], .int .i64 t161, .int .i64 t162]), (140, .agg #[.int .i64 t156, .int .i64 t157, s_.2.1]), (141, .int .i64 t161), (142, .int .i64 t162)]) (fun s_ w' => (Kd.R (Kd.int .u8) 5 w' w.heap.size (fun _ => True) s_.1 y153) ∧ (Kd.N (Kd.slice 28 k28) 30 w' w.heap.size (fun k_ => some k_ ≠ (s_.1 : Value).ownBlock ∧ k_ ≠ s_.2.2) s_.2.1 t158) ∧ (w'.heap[s_.2.2]? = some (.cells #[.int .i64 0, .int .i64 0, .slice none 0 0] 24 (0, 0))) ∧ (w.heap.size ≤ s_.2.2) ∧ (w.heap.size ≤ s_.2.2) ∧ (Below w.heap.size w w')) ?_ ?_
      rotate_left
      · intro hCont
        refine two_ (i := 5) (j := 16) (Ni := some 133) (Nj := some 24) (bs 831 20) (bs 66335 20) rfl rfl rfl rfl (two_of HT_.out (by kernel_rfl)) (by decide) (by decide) (fun K hK => ?_) (fun K hK => ?_)
        rotate_left
        · skip
          refine box_step ?hg (N := 24) ?hd (cs := #[.int .i64 0, .int .i64 0, .slice none 0 0]) (t := 24) ?hr ?_; (case hd => rfl); (case hg => rfl); (case hr => exact qq6)
          intro gb163 hg w149 hbox hb
          have BK163 := Aside0.mk (hbox)
          have GW163 := Aside0.mk ((qq9 : w.heap.size ≤ gb163))
          have GE163 := Aside0.mk ((qq9 : w.heap.size ≤ gb163))
          replace HB := Aside0.mk (below_step (qB HB.out) hb)
          clear hb hbox hg
          refine hK.out _ _ trivial (fun hHeld => ?_)
          clear hK K
          refine normS (some 24) ?_
          refine one_ (i := 5) (N := some 133) (bs 66367 20) rfl rfl (one_of HT_.out (by kernel_rfl)) (by decide) (fun K hK => ?_)
          refine Kd.R_lit_step (Kd.int .u8) _ 5 ?hg (N := 133) ?hd (xs := ([(128 + (Int.tmod a2 128)) % 256] : List Int)) (inner := [.int .u8 ((128 + (Int.tmod a2 128)) % 256)]) (ok := fun _ => True) (okp := fun _ => True) ?hr ?hp (fun _ hk => hk) trivial (Below.refl _ _) (Nat.le_refl _) (by simp) ?_; (case hd => rfl); (case hg => rfl); (case hr => exact qq6); (case hp => exact qq1w)
          intro v154 w150 ho151 hb hg_ hnew_
          clear hg_ hnew_
          (first | rw [← Ny153.out] at ho151 | (simp only [Int.reduceToNat] at ho151; rw [← Ny153.out] at ho151))
          have HO155 := Aside0.mk (Kd.R_lower ho151 (below_size (qS1 GE163 HB.out)))
          replace BK163 := Aside0.mk (blk_below (bq BK163.out) hb)
          replace HB := Aside0.mk (below_step (qS1 GE163 HB.out) hb)
          clear hb ho151
          refine hK.out _ _ trivial (fun hHeld => ?_)
          clear hK K
          refine normS (some 133) ?_
          refine one_ (i := 6) (N := some 134) (bs 66431 20) rfl rfl (one_of HT_.out (by kernel_rfl)) (by decide) (fun K hK => ?_)
          have hcv152 := own_string (P := Try.prog) Try.underlying39 Try.underlying5 Try.underlying9 (Kd.own_of_R HO155.out)
          refine value_ (w1 := ?_) (v := ?_) (by rfl) rfl ?_ ?_
          rotate_left 2
          · go_simp
            constructor
            · rfl
            rfl
          clear hcv152
          refine hK.out _ _ trivial (fun hHeld => ?_)
          clear hK K
          refine normS (some 134) ?_
          refine pureS 7 (some 135) (bs 66559 20) ?_
          refine pureS 10 (some 138) (bs 67583 20) ?_
          refine one_ (i := 11) (N := some 139) (bs 69631 20) rfl rfl (one_of HT_.out (by kernel_rfl)) (by decide) (fun K hK => ?_)
          refine goes_ Try.func21 (by kernel_rfl) rfl #[.string (((t109.extract 0 12) ++ (strOfNums y153)) ++ (t109.extract 13 t109.size))] (by rfl) rfl rfl qq0 ?_
          with_reducible refine (smf_Parse.calls kj18 (((t109.extract 0 12) ++ (strOfNums y153)) ++ (t109.extract 13 t109.size)) t156 t157 t158 t161 t162 _ A84.out).mono ?_
          rintro e w153 ⟨v159, rfl, ho0, hb⟩
          refine ⟨_, rfl, ?_⟩
          have HO160 := Aside0.mk (Kd.N_lower (Kd.N_mono (ok' := fun k_ => some k_ ≠ (v154 : Value).ownBlock ∧ k_ ≠ gb163) (Kd.S_N (Kd.S_bound ho0)) (fun k_ hk_ => ⟨(Kd.fresh' (Kd.R_lt (qR HO155.out)) k_ hk_.2.1), (Kd.freshB (bq BK163.out) k_ hk_.2.1)⟩)) (below_size (qS1 GE163 HB.out)))
          replace HO155 := Aside0.mk (Kd.R_below (qR HO155.out) hb)
          replace BK163 := Aside0.mk (blk_below (bq BK163.out) hb)
          replace HB := Aside0.mk (below_step (qS1 GE163 HB.out) hb)
          (try clear hb)
          (try clear hb2)
          (try clear hk)
          (try clear hi)
          (try clear ho0)
          refine hK.out _ _ trivial (fun hHeld => ?_)
          clear hK K
          refine normS (some 139) ?_
          refine pureS 12 (some 127) (bs 73727 20) ?_
          refine pureS 13 (some 140) (bs 81919 20) ?_
          refine pureS 14 (some 141) (bs 98303 20) ?_
          refine pureS 15 (some 142) (bs 131071 20) ?_
          exact norm_ qq1 (hCont (v154, v159, gb163) _ ⟨(qR HO155.out), (qN HO160.out), (bq BK163.out), GW163.out, GE163.out, (qS1 GE163 HB.out)⟩)
        skip
        refine Kd.R_lit_step (Kd.int .u8) _ 5 ?hg (N := 133) ?hd (xs := ([(128 + (Int.tmod a2 128)) % 256] : List Int)) (inner := [.int .u8 ((128 + (Int.tmod a2 128)) % 256)]) (ok := fun _ => True) (okp := fun _ => True) ?hr ?hp (fun _ hk => hk) trivial (Below.refl _ _) (Nat.le_refl _) (by simp) ?_; (case hd => rfl); (case hg => rfl); (case hr => exact qq6); (case hp => exact qq1w)
        intro v154 w149 ho150 hb hg_ hnew_
        clear hg_ hnew_
        (first | rw [← Ny153.out] at ho150 | (simp only [Int.reduceToNat] at ho150; rw [← Ny153.out] at ho150))
        have HO155 := Aside0.mk (Kd.R_lower ho150 (below_size (qB HB.out)))
        replace HB := Aside0.mk (below_step (qB HB.out) hb)
        clear hb ho150
        refine hK.out _ _ trivial (fun hHeld => ?_)
        clear hK K
        refine normS (some 133) ?_
        refine two_ (i := 6) (j := 16) (Ni := some 134) (Nj := some 24) (bs 895 20) (bs 66367 20) rfl rfl rfl rfl (two_of HT_.out (by kernel_rfl)) (by decide) (by decide) (fun K hK => ?_) (fun K hK => ?_)
        rotate_left
        · skip
          refine box_step ?hg (N := 24) ?hd (cs := #[.int .i64 0, .int .i64 0, .slice none 0 0]) (t := 24) ?hr ?_; (case hd => rfl); (case hg => rfl); (case hr => exact qq6)
          intro gb163 hg w151 hbox hb
          replace HO155 := Aside0.mk (Kd.R_below (qR HO155.out) hb)
          have BK163 := Aside0.mk (hbox)
          have GW163 := Aside0.mk ((qq9 : w.heap.size ≤ gb163))
          have GE163 := Aside0.mk ((qq9 : w.heap.size ≤ gb163))
          replace HB := Aside0.mk (below_step (qB HB.out) hb)
          clear hb hbox hg
          refine hK.out _ _ trivial (fun hHeld => ?_)
          clear hK K
          refine normS (some 24) ?_
          refine one_ (i := 6) (N := some 134) (bs 66431 20) rfl rfl (one_of HT_.out (by kernel_rfl)) (by decide) (fun K hK => ?_)
          have hcv152 := own_string (P := Try.prog) Try.underlying39 Try.underlying5 Try.underlying9 (Kd.own_of_R HO155.out)
          refine value_ (w1 := ?_) (v := ?_) (by rfl) rfl ?_ ?_
          rotate_left 2
          · go_simp
            constructor
            · rfl
            rfl
          clear hcv152
          refine hK.out _ _ trivial (fun hHeld => ?_)
          clear hK K
          refine normS (some 134) ?_
          refine pureS 7 (some 135) (bs 66559 20) ?_
          refine pureS 10 (some 138) (bs 67583 20) ?_
          refine one_ (i := 11) (N := some 139) (bs 69631 20) rfl rfl (one_of HT_.out (by kernel_rfl)) (by decide) (fun K hK => ?_)
          refine goes_ Try.func21 (by kernel_rfl) rfl #[.string (((t109.extract 0 12) ++ (strOfNums y153)) ++ (t109.extract 13 t109.size))] (by rfl) rfl rfl qq0 ?_
          with_reducible refine (smf_Parse.calls kj18 (((t109.extract 0 12) ++ (strOfNums y153)) ++ (t109.extract 13 t109.size)) t156 t157 t158 t161 t162 _ A84.out).mono ?_
          rintro e w153 ⟨v159, rfl, ho0, hb⟩
          refine ⟨_, rfl, ?_⟩
          have HO160 := Aside0.mk (Kd.N_lower (Kd.N_mono (ok' := fun k_ => some k_ ≠ (v154 : Value).ownBlock ∧ k_ ≠ gb163) (Kd.S_N (Kd.S_bound ho0)) (fun k_ hk_ => ⟨(Kd.fresh' (Kd.R_lt (qR HO155.out)) k_ hk_.2.1), (Kd.freshB (bq BK163.out) k_ hk_.2.1)⟩)) (below_size (qS1 GE163 HB.out)))
          replace HO155 := Aside0.mk (Kd.R_below (qR HO155.out) hb)
          replace BK163 := Aside0.mk (blk_below (bq BK163.out) hb)
          replace HB := Aside0.mk (below_step (qS1 GE163 HB.out) hb)
          (try clear hb)
          (try clear hb2)
          (try clear hk)
          (try clear hi)
          (try clear ho0)
          refine hK.out _ _ trivial (fun hHeld => ?_)
          clear hK K
          refine normS (some 139) ?_
          refine pureS 12 (some 127) (bs 73727 20) ?_
          refine pureS 13 (some 140) (bs 81919 20) ?_
          refine pureS 14 (some 141) (bs 98303 20) ?_
          refine pureS 15 (some 142) (bs 131071 20) ?_
          exact norm_ qq1 (hCont (v154, v159, gb163) _ ⟨(qR HO155.out), (qN HO160.out), (bq BK163.out), GW163.out, GE163.out, (qS1 GE163 HB.out)⟩)
        skip
        have hcv151 := own_string (P := Try.prog) Try.underlying39 Try.underlying5 Try.underlying9 (Kd.own_of_R HO155.out)
        refine value_ (w1 := ?_) (v := ?_) (by rfl) rfl ?_ ?_
        rotate_left 2
        · go_simp
          constructor
          · rfl
          rfl
        clear hcv151
        refine hK.out _ _ trivial (fun hHeld => ?_)
        clear hK K
        refine normS (some 134) ?_
        refine pureS 7 (some 135) (bs 1023 20) ?_
        refine pureS 10 (some 138) (bs 2047 20) ?_
        refine two_ (i := 11) (j := 16) (Ni := some 139) (Nj := some 24) (bs 4095 20) (bs 67583 20) rfl rfl rfl rfl (two_of HT_.out (by kernel_rfl)) (by decide) (by decide) (fun K hK => ?_) (fun K hK => ?_)
        · skip
          refine goes_ Try.func21 (by kernel_rfl) rfl #[.string (((t109.extract 0 12) ++ (strOfNums y153)) ++ (t109.extract 13 t109.size))] (by rfl) rfl rfl qq0 ?_
          with_reducible refine (smf_Parse.calls kj18 (((t109.extract 0 12) ++ (strOfNums y153)) ++ (t109.extract 13 t109.size)) t156 t157 t158 t161 t162 _ A84.out).mono ?_
          rintro e w152 ⟨v159, rfl, ho0, hb⟩
          refine ⟨_, rfl, ?_⟩
          have HO160 := Aside0.mk (Kd.N_lower (Kd.N_mono (ok' := fun k_ => some k_ ≠ (v154 : Value).ownBlock) (Kd.S_N (Kd.S_bound ho0)) (fun k_ hk_ => (Kd.fresh' (Kd.R_lt (qR HO155.out)) k_ hk_.2.1))) (below_size (qB HB.out)))
          replace HO155 := Aside0.mk (Kd.R_below (qR HO155.out) hb)
          replace HB := Aside0.mk (below_step (qB HB.out) hb)
          (try clear hb)
          (try clear hb2)
          (try clear hk)
          (try clear hi)
          (try clear ho0)
          refine hK.out _ _ trivial (fun hHeld => ?_)
          clear hK K
          refine normS (some 139) ?_
          refine pureS 12 (some 127) (bs 8191 20) ?_
          refine pureS 13 (some 140) (bs 16383 20) ?_
          refine pureS 14 (some 141) (bs 32767 20) ?_
          refine pureS 15 (some 142) (bs 65535 20) ?_
          refine one_ (i := 16) (N := some 24) (bs 131071 20) rfl rfl (one_of HT_.out (by kernel_rfl)) (by decide) (fun K hK => ?_)
          refine box_step ?hg (N := 24) ?hd (cs := #[.int .i64 0, .int .i64 0, .slice none 0 0]) (t := 24) ?hr ?_; (case hd => rfl); (case hg => rfl); (case hr => exact qq6)
          intro gb163 hg w153 hbox hb
          replace HO155 := Aside0.mk (Kd.R_below (qR HO155.out) hb)
          replace HO160 := Aside0.mk (Kd.N_below (Kd.N_elderB (qN HO160.out) gb163 (Nat.le_of_eq hg.symm)) hb)
          have BK163 := Aside0.mk (hbox)
          have GW163 := Aside0.mk ((qq9 : w.heap.size ≤ gb163))
          have GE163 := Aside0.mk ((qq9 : w.heap.size ≤ gb163))
          replace HB := Aside0.mk (below_step (qB HB.out) hb)
          clear hb hbox hg
          refine hK.out _ _ trivial (fun hHeld => ?_)
          clear hK K
          refine normS (some 24) ?_
          exact norm_ qq1 (hCont (v154, v159, gb163) _ ⟨(qR HO155.out), (qN HO160.out), (bq BK163.out), GW163.out, GE163.out, (qS1 GE163 HB.out)⟩)
        skip
        refine box_step ?hg (N := 24) ?hd (cs := #[.int .i64 0, .int .i64 0, .slice none 0 0]) (t := 24) ?hr ?_; (case hd => rfl); (case hg => rfl); (case hr => exact qq6)
        intro gb163 hg w152 hbox hb
        replace HO155 := Aside0.mk (Kd.R_below (qR HO155.out) hb)
        have BK163 := Aside0.mk (hbox)
        have GW163 := Aside0.mk ((qq9 : w.heap.size ≤ gb163))
        have GE163 := Aside0.mk ((qq9 : w.heap.size ≤ gb163))
        replace HB := Aside0.mk (below_step (qB HB.out) hb)
        clear hb hbox hg
        refine hK.out _ _ trivial (fun hHeld => ?_)
        clear hK K
        refine normS (some 24) ?_
        refine one_ (i := 11) (N := some 139) (bs 69631 20) rfl rfl (one_of HT_.out (by kernel_rfl)) (by decide) (fun K hK => ?_)
        refine goes_ Try.func21 (by kernel_rfl) rfl #[.string (((t109.extract 0 12) ++ (strOfNums y153)) ++ (t109.extract 13 t109.size))] (by rfl) rfl rfl qq0 ?_
        with_reducible refine (smf_Parse.calls kj18 (((t109.extract 0 12) ++ (strOfNums y153)) ++ (t109.extract 13 t109.size)) t156 t157 t158 t161 t162 _ A84.out).mono ?_
        rintro e w153 ⟨v159, rfl, ho0, hb⟩
        refine ⟨_, rfl, ?_⟩
        have HO160 := Aside0.mk (Kd.N_lower (Kd.N_mono (ok' := fun k_ => some k_ ≠ (v154 : Value).ownBlock ∧ k_ ≠ gb163) (Kd.S_N (Kd.S_bound ho0)) (fun k_ hk_ => ⟨(Kd.fresh' (Kd.R_lt (qR HO155.out)) k_ hk_.2.1), (Kd.freshB (bq BK163.out) k_ hk_.2.1)⟩)) (below_size (qS1 GE163 HB.out)))
        replace HO155 := Aside0.mk (Kd.R_below (qR HO155.out) hb)
        replace BK163 := Aside0.mk (blk_below (bq BK163.out) hb)
        replace HB := Aside0.mk (below_step (qS1 GE163 HB.out) hb)
        (try clear hb)
        (try clear hb2)
        (try clear hk)
        (try clear hi)
        (try clear ho0)
        refine hK.out _ _ trivial (fun hHeld => ?_)
        clear hK K
        refine normS (some 139) ?_
        refine pureS 12 (some 127) (bs 73727 20) ?_
        refine pureS 13 (some 140) (bs 81919 20) ?_
        refine pureS 14 (some 141) (bs 98303 20) ?_
        refine pureS 15 (some 142) (bs 131071 20) ?_
        exact norm_ qq1 (hCont (v154, v159, gb163) _ ⟨(qR HO155.out), (qN HO160.out), (bq BK163.out), GW163.out, GE163.out, (qS1 GE163 HB.out)⟩)
      rintro ⟨v154, v159, gb163⟩ w154 ⟨h0_, h1_, h2_, h3_, h4_, h5_⟩
      have n0_ : Aside0 (Kd.R (Kd.int .u8) 5 w154 w.heap.size (fun _ => True) v154 y153) := ⟨h0_⟩
      have n1_ : Aside0 (Kd.N (Kd.slice 28 k28) 30 w154 w.heap.size (fun k_ => some k_ ≠ (v154 : Value).ownBlock ∧ k_ ≠ gb163) v159 t158) := ⟨h1_⟩
      have n2_ : Aside0 (w154.heap[gb163]? = some (.cells #[.int .i64 0, .int .i64 0, .slice none 0 0] 24 (0, 0))) := ⟨h2_⟩
      have n3_ : Aside0 (w.heap.size ≤ gb163) := ⟨h3_⟩
      have n4_ : Aside0 (w.heap.size ≤ gb163) := ⟨h4_⟩
      have n5_ : Aside0 (Below w.heap.size w w154) := ⟨h5_⟩
      clear HB
      clear h0_ h1_ h2_ h3_ h4_ h5_
      have HO155 := n0_
      have HO160 := n1_
      have BK163 := n2_
      have GW163 := n3_
      have GE163 := n4_
      have HB := n5_
      clear n0_ n1_ n2_ n3_ n4_ n5_
      have hHeld := trivial
      obtain ⟨Ao157, co157, eo157⟩ := Kd.N_slice HO160.out
      (first | subst eo157 | (injection eo157 with f1_ f2_ f3_; have f4_ := f1_.symm; have f5_ := f3_.symm; clear f1_ f2_ f3_; subst f4_; subst f5_))
      refine norm_ (a' := ?_) ?_ ?_
      rotate_left
      · simp only [putAll, Act.put, List.setIfInBounds_toArray, List.set_cons_zero, List.set_cons_succ]
        rfl
      refine one_ (i := 17) (N := none) (bs 262143 20) rfl rfl (one_of HT_.out (by kernel_rfl)) (by decide) (fun K hK => ?_)
      have hs155 : w154.cell? ⟨gb163, 0, none⟩ = some (.int .i64 0) := (blk_cell BK163.out 0).trans rfl
      have hfs155 := blk_frozen BK163.out 0
      have hs156 : w154.cell? ⟨gb163, 1, none⟩ = some (.int .i64 0) := (blk_cell BK163.out 1).trans rfl
      have hfs156 := blk_frozen BK163.out 1
      have hs158 : w154.cell? ⟨gb163, 2, none⟩ = some (.slice none 0 0) := (blk_cell BK163.out 2).trans rfl
      have hfs158 := blk_frozen BK163.out 2
      refine skip_ (w1 := ?_) (by rfl) rfl ?_ ?_
      rotate_left
      · go_simp
        rfl
      refine hK.out _ _ trivial (fun hHeld => ?_)
      clear hK K
      refine pureS 18 (some 25) (bs 524287 20) ?_
      refine pureS 19 (some 26) (bs 1048575 20) ?_
      refine done_ (done_of HT_.out (by kernel_rfl)) ?_
      try go_wp2
      have n0_ : Aside0 (Kd.R (Kd.int .u8) 5 (((w154.setCell ⟨gb163, 0, none⟩ (.int .i64 t156)).setCell ⟨gb163, 1, none⟩ (.int .i64 t157)).setCell ⟨gb163, 2, none⟩ (.slice Ao157 t158.length co157)) w.heap.size (fun _ => True) v154 y153) := ⟨by (with_reducible repeat (first | apply Kd.R_alloc | apply Kd.R_drewN | apply Kd.R_drew)); exact Kd.R_mono (Kd.R_far (p := ⟨gb163, 2, none⟩) (Kd.R_far (p := ⟨gb163, 1, none⟩) (Kd.R_far (p := ⟨gb163, 0, none⟩) (Kd.R_types HO155.out BK163.out (by decide)) (fun _ hk => hk.2) (.int .i64 t156)) (fun _ hk => hk.2) (.int .i64 t157)) (fun _ hk => hk.2) (.slice Ao157 t158.length co157)) (fun _ hk => trivial)⟩
      have n1_ : Aside0 (Kd.N (Kd.slice 28 k28) 30 (((w154.setCell ⟨gb163, 0, none⟩ (.int .i64 t156)).setCell ⟨gb163, 1, none⟩ (.int .i64 t157)).setCell ⟨gb163, 2, none⟩ (.slice Ao157 t158.length co157)) w.heap.size (fun k_ => some k_ ≠ (v154 : Value).ownBlock ∧ k_ ≠ gb163) (.slice Ao157 t158.length co157) t158) := ⟨by (with_reducible repeat (first | apply Kd.N_alloc | apply Kd.N_drewN | apply Kd.N_drew)); exact Kd.N_mono (Kd.N_far (p := ⟨gb163, 2, none⟩) (Kd.N_far (p := ⟨gb163, 1, none⟩) (Kd.N_far (p := ⟨gb163, 0, none⟩) (Kd.N_mono HO160.out (fun k_ hk => (⟨hk, hk.2⟩ : _ ∧ k_ ≠ gb163))) (fun _ hk => hk.2) (.int .i64 t156)) (fun _ hk => hk.2) (.int .i64 t157)) (fun _ hk => hk.2) (.slice Ao157 t158.length co157)) (fun _ hk => ⟨hk.1.1, hk.1.2⟩)⟩
      have n2_ : Aside0 ((((w154.setCell ⟨gb163, 0, none⟩ (.int .i64 t156)).setCell ⟨gb163, 1, none⟩ (.int .i64 t157)).setCell ⟨gb163, 2, none⟩ (.slice Ao157 t158.length co157)).heap[gb163]? = some (.cells #[.int .i64 t156, .int .i64 t157, .slice Ao157 t158.length co157] 24 (0, 0))) := ⟨by (with_reducible repeat (first | refine blk_drewN ?_ _ | refine blk_drew ?_ | refine blk_alloc ?_ _)); refine blk_put (cs := #[.int .i64 t156, .int .i64 t157, .slice none 0 0]) ?_ 2 _ rfl; (with_reducible repeat (first | refine blk_drewN ?_ _ | refine blk_drew ?_ | refine blk_alloc ?_ _)); refine blk_put (cs := #[.int .i64 t156, .int .i64 0, .slice none 0 0]) ?_ 1 _ rfl; (with_reducible repeat (first | refine blk_drewN ?_ _ | refine blk_drew ?_ | refine blk_alloc ?_ _)); refine blk_put (cs := #[.int .i64 0, .int .i64 0, .slice none 0 0]) ?_ 0 _ rfl; (with_reducible repeat (first | refine blk_drewN ?_ _ | refine blk_drew ?_ | refine blk_alloc ?_ _)); exact BK163.out⟩
      have n3_ : Aside0 (Below w.heap.size w (((w154.setCell ⟨gb163, 0, none⟩ (.int .i64 t156)).setCell ⟨gb163, 1, none⟩ (.int .i64 t157)).setCell ⟨gb163, 2, none⟩ (.slice Ao157 t158.length co157))) := ⟨qS1 GE163 HB.out⟩
      (try clear HO155)
      (try clear HO160)
      (try clear BK163)
      (try clear HB)
      generalize (((w154.setCell ⟨gb163, 0, none⟩ (.int .i64 t156)).setCell ⟨gb163, 1, none⟩ (.int .i64 t157)).setCell ⟨gb163, 2, none⟩ (.slice Ao157 t158.length co157)) = w159 at n0_ n1_ n2_ n3_ ⊢
      have HO155 := n0_
      have HO160 := n1_
      have BK163 := n2_
      have HB := n3_
      clear n0_ n1_ n2_ n3_
      clear HO155
      clear HO160
      clear BK163
      replace HB := Aside0.mk (below_drew1 HB.out)
      refine start_ (n := 15) (S := fun w' => True) (ds := []) #[false, false, false, false, false, false, false, false, false, false, false, false, false, false, false] (by kernel_rfl) rfl rfl trivial (fun hHeld => ?_); refine with_tabW partitalaw16_SmfHead.tab18 partitalaw16_SmfHead.bits18 (fun HT_ HW_ => ?_)
      generalize w159.drew = w160 at HB hHeld ⊢
      refine pureS 0 (some 144) (bs 1 15) ?_
      refine pureS 1 (some 145) (bs 3 15) ?_
      refine pureS 2 (some 146) (bs 7 15) ?_
      refine pureS 3 (some 147) (bs 15 15) ?_
      refine pureS 4 (some 148) (bs 31 15) ?_
      refine pureS 5 (some 149) (bs 63 15) ?_
      refine join_ (σ := Value × Nat) 3 (bs 4095 15) (fun s_ => [(150, .tuple #[.agg #[.int .i64 t164, .int .i64 t165, s_.1], .int .i64 t169, .int .i64 t170]), (27, .pointer (some ⟨s_.2, 0, none⟩)), (143, .tuple #[.agg #[.int .i64 t164, .int .i64 t165, s_.1], .int .i64 t169, .int .i64 t170]), (151, .agg #[.int .i64 t164, .int .i64 t165, s_.1]), (152, .int .i64 t169), (153, .int .i64 t170)]) (fun s_ w' => (Kd.N (Kd.slice 28 k28) 30 w' w.heap.size (fun k_ => k_ ≠ s_.2) s_.1 t166) ∧ (w'.heap[s_.2]? = some (.cells #[.int .i64 0, .int .i64 0, .slice none 0 0] 24 (0, 0))) ∧ (w.heap.size ≤ s_.2) ∧ (w.heap.size ≤ s_.2) ∧ (Below w.heap.size w w')) ?_ ?_
      rotate_left
      · intro hCont
        refine two_ (i := 6) (j := 11) (Ni := some 150) (Nj := some 27) (bs 127 15) (bs 2111 15) rfl rfl rfl rfl (two_of HT_.out (by kernel_rfl)) (by decide) (by decide) (fun K hK => ?_) (fun K hK => ?_)
        · skip
          refine goes_ Try.func21 (by kernel_rfl) rfl #[.string (((t109.extract 0 12) ++ (⟨#[0, 0]⟩ : ByteArray)) ++ (t109.extract 14 t109.size))] (by rfl) rfl rfl qq0 ?_
          with_reducible refine (smf_Parse.calls kj18 (((t109.extract 0 12) ++ (⟨#[0, 0]⟩ : ByteArray)) ++ (t109.extract 14 t109.size)) t164 t165 t166 t169 t170 _ A90.out).mono ?_
          rintro e w161 ⟨v167, rfl, ho0, hb⟩
          refine ⟨_, rfl, ?_⟩
          have HO168 := Aside0.mk (Kd.N_lower (Kd.N_mono (ok' := fun k_ => True) (Kd.S_N (Kd.S_bound ho0)) (fun k_ hk_ => trivial)) (below_size (qB HB.out)))
          replace HB := Aside0.mk (below_step (qB HB.out) hb)
          (try clear hb)
          (try clear hb2)
          (try clear hk)
          (try clear hi)
          (try clear ho0)
          refine hK.out _ _ trivial (fun hHeld => ?_)
          clear hK K
          refine normS (some 150) ?_
          refine pureS 7 (some 143) (bs 255 15) ?_
          refine pureS 8 (some 151) (bs 511 15) ?_
          refine pureS 9 (some 152) (bs 1023 15) ?_
          refine pureS 10 (some 153) (bs 2047 15) ?_
          refine one_ (i := 11) (N := some 27) (bs 4095 15) rfl rfl (one_of HT_.out (by kernel_rfl)) (by decide) (fun K hK => ?_)
          refine box_step ?hg (N := 27) ?hd (cs := #[.int .i64 0, .int .i64 0, .slice none 0 0]) (t := 24) ?hr ?_; (case hd => rfl); (case hg => rfl); (case hr => exact qq6)
          intro gb171 hg w162 hbox hb
          replace HO168 := Aside0.mk (Kd.N_below (Kd.N_elderB (qN HO168.out) gb171 (Nat.le_of_eq hg.symm)) hb)
          have BK171 := Aside0.mk (hbox)
          have GW171 := Aside0.mk ((qq9 : w.heap.size ≤ gb171))
          have GE171 := Aside0.mk ((qq9 : w.heap.size ≤ gb171))
          replace HB := Aside0.mk (below_step (qB HB.out) hb)
          clear hb hbox hg
          refine hK.out _ _ trivial (fun hHeld => ?_)
          clear hK K
          refine normS (some 27) ?_
          exact norm_ qq1 (hCont (v167, gb171) _ ⟨(by (with_reducible repeat (first | apply Kd.N_alloc | apply Kd.N_drewN | apply Kd.N_drew)); exact Kd.N_mono HO168.out (fun _ hk => hk.2)), (bq BK171.out), GW171.out, GE171.out, (qS1 GE171 HB.out)⟩)
        skip
        refine box_step ?hg (N := 27) ?hd (cs := #[.int .i64 0, .int .i64 0, .slice none 0 0]) (t := 24) ?hr ?_; (case hd => rfl); (case hg => rfl); (case hr => exact qq6)
        intro gb171 hg w161 hbox hb
        have BK171 := Aside0.mk (hbox)
        have GW171 := Aside0.mk ((qq9 : w.heap.size ≤ gb171))
        have GE171 := Aside0.mk ((qq9 : w.heap.size ≤ gb171))
        replace HB := Aside0.mk (below_step (qB HB.out) hb)
        clear hb hbox hg
        refine hK.out _ _ trivial (fun hHeld => ?_)
        clear hK K
        refine normS (some 27) ?_
        refine one_ (i := 6) (N := some 150) (bs 2175 15) rfl rfl (one_of HT_.out (by kernel_rfl)) (by decide) (fun K hK => ?_)
        refine goes_ Try.func21 (by kernel_rfl) rfl #[.string (((t109.extract 0 12) ++ (⟨#[0, 0]⟩ : ByteArray)) ++ (t109.extract 14 t109.size))] (by rfl) rfl rfl qq0 ?_
        with_reducible refine (smf_Parse.calls kj18 (((t109.extract 0 12) ++ (⟨#[0, 0]⟩ : ByteArray)) ++ (t109.extract 14 t109.size)) t164 t165 t166 t169 t170 _ A90.out).mono ?_
        rintro e w162 ⟨v167, rfl, ho0, hb⟩
        refine ⟨_, rfl, ?_⟩
        have HO168 := Aside0.mk (Kd.N_lower (Kd.N_mono (ok' := fun k_ => k_ ≠ gb171) (Kd.S_N (Kd.S_bound ho0)) (fun k_ hk_ => (Kd.freshB (bq BK171.out) k_ hk_.2.1))) (below_size (qS1 GE171 HB.out)))
        replace BK171 := Aside0.mk (blk_below (bq BK171.out) hb)
        replace HB := Aside0.mk (below_step (qS1 GE171 HB.out) hb)
        (try clear hb)
        (try clear hb2)
        (try clear hk)
        (try clear hi)
        (try clear ho0)
        refine hK.out _ _ trivial (fun hHeld => ?_)
        clear hK K
        refine normS (some 150) ?_
        refine pureS 7 (some 143) (bs 2303 15) ?_
        refine pureS 8 (some 151) (bs 2559 15) ?_
        refine pureS 9 (some 152) (bs 3071 15) ?_
        refine pureS 10 (some 153) (bs 4095 15) ?_
        exact norm_ qq1 (hCont (v167, gb171) _ ⟨(qN HO168.out), (bq BK171.out), GW171.out, GE171.out, (qS1 GE171 HB.out)⟩)
      rintro ⟨v167, gb171⟩ w163 ⟨h0_, h1_, h2_, h3_, h4_⟩
      have n0_ : Aside0 (Kd.N (Kd.slice 28 k28) 30 w163 w.heap.size (fun k_ => k_ ≠ gb171) v167 t166) := ⟨h0_⟩
      have n1_ : Aside0 (w163.heap[gb171]? = some (.cells #[.int .i64 0, .int .i64 0, .slice none 0 0] 24 (0, 0))) := ⟨h1_⟩
      have n2_ : Aside0 (w.heap.size ≤ gb171) := ⟨h2_⟩
      have n3_ : Aside0 (w.heap.size ≤ gb171) := ⟨h3_⟩
      have n4_ : Aside0 (Below w.heap.size w w163) := ⟨h4_⟩
      clear HB
      clear h0_ h1_ h2_ h3_ h4_
      have HO168 := n0_
      have BK171 := n1_
      have GW171 := n2_
      have GE171 := n3_
      have HB := n4_
      clear n0_ n1_ n2_ n3_ n4_
      have hHeld := trivial
      obtain ⟨Ao166, co166, eo166⟩ := Kd.N_slice HO168.out
      (first | subst eo166 | (injection eo166 with f1_ f2_ f3_; have f4_ := f1_.symm; have f5_ := f3_.symm; clear f1_ f2_ f3_; subst f4_; subst f5_))
      refine norm_ (a' := ?_) ?_ ?_
      rotate_left
      · simp only [putAll, Act.put, List.setIfInBounds_toArray, List.set_cons_zero, List.set_cons_succ]
        rfl
      refine one_ (i := 12) (N := none) (bs 8191 15) rfl rfl (one_of HT_.out (by kernel_rfl)) (by decide) (fun K hK => ?_)
      have hs164 : w163.cell? ⟨gb171, 0, none⟩ = some (.int .i64 0) := (blk_cell BK171.out 0).trans rfl
      have hfs164 := blk_frozen BK171.out 0
      have hs165 : w163.cell? ⟨gb171, 1, none⟩ = some (.int .i64 0) := (blk_cell BK171.out 1).trans rfl
      have hfs165 := blk_frozen BK171.out 1
      have hs167 : w163.cell? ⟨gb171, 2, none⟩ = some (.slice none 0 0) := (blk_cell BK171.out 2).trans rfl
      have hfs167 := blk_frozen BK171.out 2
      refine skip_ (w1 := ?_) (by rfl) rfl ?_ ?_
      rotate_left
      · go_simp
        rfl
      refine hK.out _ _ trivial (fun hHeld => ?_)
      clear hK K
      refine pureS 13 (some 28) (bs 16383 15) ?_
      refine pureS 14 (some 29) (bs 32767 15) ?_
      refine done_ (done_of HT_.out (by kernel_rfl)) ?_
      try go_wp2
      go_ret
      exact ⟨qq1h, qS1 GE171 HB.out⟩
end Go.Proofs.Ytdmnknhlibaaoaa.M
namespace Go.Proofs.Ytdmnknhlibaaoaa.Z
open Go.RowKit Go.Proofs.YtdmnknhlibaaoaaW.PrintWords Go.Proofs.YtdmnknhlibaaoaaW.PrintLast Go.Proofs.YtdmnknhlibaaoaaW.PrintMore Go.Proofs.Ytdmnknhlibaaoaa.M
set_option linter.unusedVariables false
theorem rd_left {A r : List Int} {j : Nat} (h : j < A.length) : rd (A ++ r) (j : Int) = rd A (j : Int) := by
  unfold rd
  rw [List.getD_eq_getElem?_getD, List.getD_eq_getElem?_getD, Int.toNat_natCast, List.getElem?_append_left h]
theorem rd_mid {A r : List Int} {x : Int} {i : Nat} (h : A.length = i) : rd (A ++ (x :: r)) (i : Int) = x := by
  unfold rd
  rw [List.getD_eq_getElem?_getD, Int.toNat_natCast, List.getElem?_append_right (by omega), ← h, Nat.sub_self]
  rfl
theorem rd_take2 {b : List Int} {k j : Nat} (h : j < k) : rd (b.take k) (j : Int) = rd b (j : Int) := by
  unfold rd
  rw [List.getD_eq_getElem?_getD, List.getD_eq_getElem?_getD, Int.toNat_natCast, List.getElem?_take, if_pos h]
theorem okL_congr {b b' : List Int} {j : Nat} (hj : j < 14) (e : ∀ i : Nat, i ≤ j → rd b (i : Int) = rd b' (i : Int)) : okL b j = okL b' j := by
  rcases (show j = 0 ∨ j = 1 ∨ j = 2 ∨ j = 3 ∨ j = 4 ∨ j = 5 ∨ j = 6 ∨ j = 7 ∨ j = 8 ∨ j = 9 ∨ j = 10 ∨ j = 11 ∨ j = 12 ∨ j = 13 by omega) with rfl | rfl | rfl | rfl | rfl | rfl | rfl | rfl | rfl | rfl | rfl | rfl | rfl | rfl
  · exact congrArg (· == 77) (e 0 (by omega))
  · exact congrArg (· == 84) (e 1 (by omega))
  · exact congrArg (· == 104) (e 2 (by omega))
  · exact congrArg (· == 100) (e 3 (by omega))
  · exact congrArg (· == 0) (e 4 (by omega))
  · exact congrArg (· == 0) (e 5 (by omega))
  · exact congrArg (· == 0) (e 6 (by omega))
  · exact congrArg (· == 6) (e 7 (by omega))
  · exact congrArg (· == 0) (e 8 (by omega))
  · exact congrArg (fun x : Int => decide (x ≤ 1)) (e 9 (by omega))
  · exact congrArg (· == 0) (e 10 (by omega))
  · have h1 := e 11 (by omega)
    have h2 := e 9 (by omega)
    show okN (rd b 11) (rd b 9) = okN (rd b' 11) (rd b' 9)
    rw [show rd b 11 = rd b' 11 from h1, show rd b 9 = rd b' 9 from h2]
  · exact congrArg (fun x : Int => decide (x < 128)) (e 12 (by omega))
  · have h1 := e 13 (by omega)
    have h2 := e 12 (by omega)
    show (decide (rd b 13 > 0) || decide (rd b 12 > 0)) = (decide (rd b' 13 > 0) || decide (rd b' 12 > 0))
    rw [show rd b 13 = rd b' 13 from h1, show rd b 12 = rd b' 12 from h2]
theorem okL_const {K : Nat} (h : K ≤ 7 ∨ K = 10) : ∃ c : Int, ∀ b, okL b K = (rd b (K : Int) == c) := by
  rcases (show K = 0 ∨ K = 1 ∨ K = 2 ∨ K = 3 ∨ K = 4 ∨ K = 5 ∨ K = 6 ∨ K = 7 ∨ K = 10 by omega) with rfl | rfl | rfl | rfl | rfl | rfl | rfl | rfl | rfl
  · exact ⟨77, fun _ => rfl⟩
  · exact ⟨84, fun _ => rfl⟩
  · exact ⟨104, fun _ => rfl⟩
  · exact ⟨100, fun _ => rfl⟩
  · exact ⟨0, fun _ => rfl⟩
  · exact ⟨0, fun _ => rfl⟩
  · exact ⟨0, fun _ => rfl⟩
  · exact ⟨6, fun _ => rfl⟩
  · exact ⟨0, fun _ => rfl⟩
theorem splice {s c : ByteArray} {b cB : List Int} (hs : bytesOf s = b) (hc : bytesOf c = cB) (k m : Nat) : bytesOf ((s.extract 0 k ++ c) ++ s.extract m s.size) = b.take k ++ (cB ++ b.drop m) := by
  have hl : b.length = s.size := by rw [← hs, bytesOf_length]
  rw [bytesOf_append, bytesOf_append, bytesOf_extract, bytesOf_extract, hs, hc, List.drop_zero, Nat.sub_zero, List.append_assoc, List.take_of_length_le (show (b.drop m).length ≤ s.size - m by rw [List.length_drop]; omega)]
section
variable {f d : Int} {ts : List (List Msg)}
theorem FR.len14 (h : FR f d ts) : 14 ≤ (fileB f d ts).length := by unfold fileB; rw [List.length_append, headB_len]; omega
theorem head_bad (h : FR f d ts) {s : ByteArray} {k : Nat} (hk : k < 14) {x : Int} {r : List Int} (hb : bytesOf s = (fileB f d ts).take k ++ (x :: r)) (hz : s.size ≤ 100000) (hbad : okL (bytesOf s) k = false) :
    Ev (fun n => smf_Parse.f n s) (0, 0, [], (k : Int), 160) := by
  have hlen := h.len14
  refine parse_headBad hz (headGo_at hk ?_ (fun j hj => ?_) (by rw [okAt_bytes rfl]; exact hbad))
  · have := congrArg List.length hb
    rw [bytesOf_length, List.length_append, List.length_take, List.length_cons] at this
    omega
  · rw [okAt_bytes hb, okL_congr (b' := fileB f d ts) (by omega) (fun i hi => by rw [rd_left (by rw [List.length_take]; omega), rd_take2 (by omega)])]
    exact okL_head h.head (trksB ts) j (by omega)
theorem turned (h : FR f d ts) {x : Int} (h0 : 0 ≤ x) (h1 : x ≤ 255) {k : Nat} (hk : k < 14) :
    bytesOf (((bytesF f d ts).extract 0 k ++ strOfNums [x]) ++ (bytesF f d ts).extract (k + 1) (bytesF f d ts).size) = (fileB f d ts).take k ++ (x :: (fileB f d ts).drop (k + 1)) := by
  have hx : Bytes [x] := fun y hy => by rw [List.mem_singleton.1 hy]; exact ⟨h0, h1⟩
  rw [splice h.bytes (bytesOf_str hx)]
  rfl
theorem turned_size (h : FR f d ts) {s : ByteArray} {k : Nat} (hk : k < 14) {c : List Int} (hc : c.length ≤ 14 - k) {m : Nat} (hm : m = k + c.length) (hb : bytesOf s = (fileB f d ts).take k ++ (c ++ (fileB f d ts).drop m)) : s.size = (fileB f d ts).length := by
  have hl := h.len14
  rw [← bytesOf_length, hb, List.length_append, List.length_append, List.length_take, List.length_drop]
  omega
theorem turned_bad (h : FR f d ts) {x : Int} (h0 : 0 ≤ x) (h1 : x ≤ 255) {k : Nat} (hk : k < 14) (hbad : okL ((fileB f d ts).take k ++ (x :: (fileB f d ts).drop (k + 1))) k = false) :
    Ev (fun n => smf_Parse.f n (((bytesF f d ts).extract 0 k ++ strOfNums [x]) ++ (bytesF f d ts).extract (k + 1) (bytesF f d ts).size)) (0, 0, [], (k : Int), 160) := by
  have hb := turned h h0 h1 hk
  have hl := h.len
  exact head_bad h hk hb (by rw [turned_size h hk (c := [x]) (by simp; omega) rfl hb]; omega) (by rw [hb]; exact hbad)
theorem take_len (h : FR f d ts) {k : Nat} (hk : k < 14) : ((fileB f d ts).take k).length = k := by
  have := h.len14
  rw [List.length_take]
  omega
theorem head_j0 (h : FR f d ts) {x2 : Int} (h0 : 0 ≤ x2) (h1 : x2 ≤ 255) {K : Nat} (hK : K ≤ 7 ∨ K = 10) : Ev (fun k => partitalaw16_SmfHead.j0 k x2 true (bytesF f d ts) (K : Int) f d ts) true := by
  have hl := h.len
  have hl2 := h.len14
  have hs := h.size
  have hK14 : K < 14 := by omega
  have ew : wrap64 ((K : Int) + 1) = ((K + 1 : Nat) : Int) := by rw [w64 (by omega) (by omega)]; omega
  have z1 : ∀ x, (strOfNums [x]).size = 1 := fun x => str_size _
  have ze : ∀ k, k < 15 → ((bytesF f d ts).extract 0 k).size = k := fun k hk => by rw [ByteArray.size_extract]; omega
  have zr : ∀ k, ((bytesF f d ts).extract k (bytesF f d ts).size).size = (bytesF f d ts).size - k := fun k => by rw [ByteArray.size_extract]; omega
  obtain ⟨t0, t1⟩ := tmod_range (x := x2) (n := 254) h0 (by decide)
  obtain ⟨u0, u1⟩ := tmod_range (x := x2) (n := 239) h0 (by decide)
  obtain ⟨v0, v1⟩ := tmod_range (x := x2) (n := 128) h0 (by decide)
  have p9 := turned_bad h (x := (2 + Int.tmod x2 254) % 256) (by omega) (by omega) (k := 9) (by decide) (by
    show decide (rd _ ((9 : Nat) : Int) ≤ 1) = false
    rw [rd_mid (take_len h (by decide))]
    exact decide_eq_false (by omega))
  have p11 := turned_bad h (x := (17 + Int.tmod x2 239) % 256) (by omega) (by omega) (k := 11) (by decide) (by
    show okN (rd _ ((11 : Nat) : Int)) _ = false
    rw [rd_mid (take_len h (by decide))]
    unfold okN
    rw [decide_eq_false (show ¬ (17 + Int.tmod x2 239) % 256 = 1 by omega), decide_eq_false (show ¬ (17 + Int.tmod x2 239) % 256 ≤ 16 by omega)]
    simp)
  have p12 := turned_bad h (x := (128 + Int.tmod x2 128) % 256) (by omega) (by omega) (k := 12) (by decide) (by
    show decide (rd _ ((12 : Nat) : Int) < 128) = false
    rw [rd_mid (take_len h (by decide))]
    exact decide_eq_false (by omega))
  have pn : Ev (fun n => smf_Parse.f n (((bytesF f d ts).extract 0 11 ++ (⟨#[0]⟩ : ByteArray)) ++ (bytesF f d ts).extract 12 (bytesF f d ts).size)) (0, 0, [], 11, 160) := by
    have hb := splice h.bytes (show bytesOf (⟨#[0]⟩ : ByteArray) = [0] from rfl) 11 12
    refine head_bad h (k := 11) (by decide) hb (by rw [turned_size h (k := 11) (by decide) (c := [0]) (by decide) rfl hb]; omega) ?_
    rw [hb]
    show okN (rd _ ((11 : Nat) : Int)) _ = false
    rw [show ([0] : List Int) ++ (fileB f d ts).drop 12 = 0 :: (fileB f d ts).drop 12 from rfl, rd_mid (take_len h (by decide))]
    unfold okN
    simp
  have p13 : Ev (fun n => smf_Parse.f n (((bytesF f d ts).extract 0 12 ++ (⟨#[0, 0]⟩ : ByteArray)) ++ (bytesF f d ts).extract 14 (bytesF f d ts).size)) (0, 0, [], 13, 160) := by
    have hb := splice h.bytes (show bytesOf (⟨#[0, 0]⟩ : ByteArray) = [0, 0] from rfl) 12 14
    have hz := turned_size h (k := 12) (by decide) (c := [0, 0]) (by decide) rfl hb
    have r12 : rd ((fileB f d ts).take 12 ++ ([0, 0] ++ (fileB f d ts).drop 14)) ((12 : Nat) : Int) = 0 := rd_mid (r := 0 :: (fileB f d ts).drop 14) (take_len h (by decide))
    have r13 : rd ((fileB f d ts).take 12 ++ ([0, 0] ++ (fileB f d ts).drop 14)) ((13 : Nat) : Int) = 0 := by
      have e : (fileB f d ts).take 12 ++ ([0, 0] ++ (fileB f d ts).drop 14) = ((fileB f d ts).take 12 ++ [0]) ++ (0 :: (fileB f d ts).drop 14) := by rw [List.append_assoc]; rfl
      rw [e]
      exact rd_mid (by rw [List.length_append, take_len h (by decide)]; rfl)
    refine parse_headBad (by omega) (headGo_at (i := 13) (by decide) (by omega) (fun j hj => ?_) ?_)
    · rw [okAt_bytes hb]
      by_cases c : j < 12
      · rw [okL_congr (b' := fileB f d ts) (by omega) (fun i hi => by rw [rd_left (by rw [List.length_take]; omega), rd_take2 (by omega)])]
        exact okL_head h.head (trksB ts) j (by omega)
      · obtain rfl : j = 12 := by omega
        generalize (fileB f d ts).take 12 ++ ([0, 0] ++ (fileB f d ts).drop 14) = X at r12 ⊢
        show decide (rd X 12 < 128) = true
        rw [show rd X 12 = 0 from r12]
        rfl
    · rw [okAt_bytes hb]
      generalize (fileB f d ts).take 12 ++ ([0, 0] ++ (fileB f d ts).drop 14) = X at r12 r13 ⊢
      show (decide (rd X 13 > 0) || decide (rd X 12 > 0)) = false
      rw [show rd X 12 = 0 from r12, show rd X 13 = 0 from r13]
      rfl
  have hbK : bt (bytesF f d ts) (K : Int) = rd (fileB f d ts) (K : Int) := by rw [← h.bytes, rd_bytesOf]
  refine Ev.step (fun k => by rw [partitalaw16_SmfHead.j0]) ?_
  rw [ew]
  simp only [Int.toNat_natCast]
  refine Ev.yes (Int.natCast_nonneg _) (Ev.yes (by omega) (Ev.bind (Ev.now _) (Ev.yes (by rw [ze K (by omega), z1]; omega) (Ev.yes (Int.natCast_nonneg _) (Ev.yes (by omega) (Ev.yes (by rw [ByteArray.size_append, ze K (by omega), z1, zr]; omega) ?_))))))
  by_cases c : x2 = bt (bytesF f d ts) (K : Int)
  · have hb := turned h h0 h1 hK14
    have e : (((bytesF f d ts).extract 0 K ++ strOfNums [x2]) ++ (bytesF f d ts).extract (K + 1) (bytesF f d ts).size) = bytesF f d ts := by
      refine bytesOf_inj ?_
      rw [hb, h.bytes]
      have hx : (fileB f d ts)[K]'(by omega) = x2 := by
        rw [c, hbK]
        unfold rd
        rw [List.getD_eq_getElem?_getD, Int.toNat_natCast, List.getElem?_eq_getElem (by omega)]
        rfl
      have e2 := List.take_append_drop K (fileB f d ts)
      rw [List.drop_eq_getElem_cons (by omega), hx] at e2
      exact e2
    rw [e]
    refine Ev.bind h.parse ?_
    dsimp only
    exact Ev.yes (by omega) (Ev.yes c (Ev.yes trivial (Ev.yes rfl (Ev.bind (Ev.ok (same_ev f d ts f d ts h.small) (decide_eq_true ⟨rfl, rfl, rfl⟩)) (Ev.now _)))))
  · have pK := turned_bad h h0 h1 hK14 (by
      obtain ⟨q, hq⟩ := okL_const hK
      have h2 : okL (fileB f d ts) K = true := okL_head h.head (trksB ts) K hK14
      rw [hq] at h2 ⊢
      rw [rd_mid (take_len h hK14)]
      exact beq_eq_false_iff_ne.mpr (fun e => c (by rw [hbK, beq_iff_eq.1 h2, e])))
    refine Ev.bind pK ?_
    dsimp only
    have hn1 : (⟨#[0]⟩ : ByteArray).size = 1 := rfl
    have hn2 : (⟨#[0, 0]⟩ : ByteArray).size = 2 := rfl
    refine Ev.yes (by omega) (Ev.no c (Ev.yes (by decide) (Ev.yes (by omega) (Ev.bind (Ev.now _) (Ev.yes (by rw [ze 9 (by decide), z1]; omega) (Ev.yes (by omega) (Ev.yes (by rw [ByteArray.size_append, ze 9 (by decide), z1, zr]; omega) (Ev.bind p9 ?_))))))))
    dsimp only
    refine Ev.yes (by decide) (Ev.yes (by omega) (Ev.yes (by rw [ze 11 (by decide)]; omega) (Ev.yes (by omega) (Ev.yes (by rw [ByteArray.size_append, ze 11 (by decide), hn1, zr]; omega) (Ev.bind pn ?_)))))
    dsimp only
    refine Ev.bind (Ev.now _) (Ev.yes (by rw [ze 11 (by decide), z1]; omega) (Ev.yes (by rw [ByteArray.size_append, ze 11 (by decide), z1, zr]; omega) (Ev.bind p11 ?_)))
    dsimp only
    refine Ev.yes (by decide) (Ev.bind (Ev.now _) (Ev.yes (by rw [ze 12 (by decide), z1]; omega) (Ev.yes (by omega) (Ev.yes (by rw [ByteArray.size_append, ze 12 (by decide), z1, zr]; omega) (Ev.bind p12 ?_)))))
    dsimp only
    refine Ev.yes (by rw [ze 12 (by decide)]; omega) (Ev.yes (by omega) (Ev.yes (by rw [ByteArray.size_append, ze 12 (by decide), hn2, zr]; omega) (Ev.bind p13 ?_)))
    dsimp only
    exact Ev.yes trivial (Ev.yes rfl (Ev.yes rfl (Ev.yes rfl (Ev.yes rfl (Ev.yes rfl (Ev.yes rfl (Ev.yes rfl (Ev.yes rfl (Ev.yes rfl (Ev.yes rfl (Ev.yes rfl (Ev.ok (Ev.now _) (by simp)))))))))))))
end
theorem smfHead {f d a1 a2 : Int} {L : List (List Msg)} (hf : I64 f) (hd : I64 d) (hL : Raws L) (h10 : 0 ≤ a1) (h11 : a1 ≤ 255) (h20 : 0 ≤ a2) (h21 : a2 ≤ 255) : Ev (fun k => partitalaw16_SmfHead.f k f d L a1 a2) true := by
  obtain ⟨f1, d1, a, e1, g1⟩ := file_ev hf hd hL
  have h1 := gf_fr g1
  have hs := h1.size
  have hl := h1.len14
  refine Ev.bind examples_ev (Ev.yes rfl (Ev.bind e1 ?_))
  dsimp only
  refine Ev.bind h1.print ?_
  dsimp only
  obtain ⟨t0, t1⟩ := tmod_range (x := a1) (n := 9) h10 (by decide)
  rw [w64 (x := Int.tmod a1 9) (by omega) (by omega)]
  refine Ev.yes rfl (Ev.no (by omega) ?_)
  by_cases c : Int.tmod a1 9 = 8
  · exact Ev.yes c (head_j0 h1 h20 h21 (K := 10) (.inr rfl))
  · obtain ⟨K, hK⟩ : ∃ K : Nat, Int.tmod a1 9 = (K : Int) := ⟨(Int.tmod a1 9).toNat, by omega⟩
    rw [hK] at c t1 ⊢
    exact Ev.no c (head_j0 h1 h20 h21 (K := K) (.inl (by omega)))
end Go.Proofs.Ytdmnknhlibaaoaa.Z
