/- What the statement SmfChunks alone needs: its printed function, and its pure part (part 1). -/
import Derived.Test.YtdmnknhlibaaoaaProg
import Derived.Laws.IdiomArrays
import Derived.RowKit
import Derived.WalkKit
import Derived.OpenShut
import Derived.Test.YtdmnknhlibaaoaaCW
import Derived.Test.YtdmnknhlibaaoaaC1
import Derived.Test.YtdmnknhlibaaoaaC2
import Derived.Test.YtdmnknhlibaaoaaC4
import Derived.Test.YtdmnknhlibaaoaaC3
namespace Go.Proofs.Ytdmnknhlibaaoaa.M
open Go.RowKit Go.Proofs.YtdmnknhlibaaoaaW.PrintWords Go.Proofs.YtdmnknhlibaaoaaW.PrintLast Go.Proofs.YtdmnknhlibaaoaaW.PrintMore
attribute [local go_sem] max2_int min2_int max_two min_two max_three min_three max_four min_four
set_option linter.unusedVariables false
set_option linter.unusedSimpArgs false
def partitalaw16_big.f (a0 : Int) : Option (ByteArray) := some (strOfNums (([(a0 / 16777216) % 256, (a0 / 65536) % 256, (a0 / 256) % 256, (a0) % 256] : List Int)))
set_option maxHeartbeats 8000000 in
set_option maxRecDepth 100000 in
theorem partitalaw16_big.calls (a0 : Int) (r : ByteArray) (w : World) (h : partitalaw16_big.f a0 = some r) :
    Calls Try.prog 23 #[.int .i64 a0] w fun e w' => e = .returned (.string r) ∧ Below w.heap.size w w' := by
  have HB := Aside0.mk (Below.refl w.heap.size w)
  have H := h
  unfold partitalaw16_big.f at H
  clear h
  obtain ⟨y101, hy101⟩ : ∃ y_ : List Int, y_ = (([(a0 / 16777216) % 256, (a0 / 65536) % 256, (a0 / 256) % 256, (a0) % 256] : List Int)) := ⟨_, rfl⟩
  replace H : (some (strOfNums y101)) = some r := by first | (rw [hy101]; with_reducible exact H) | (have H2_ := (Option.bind_some _ _).symm.trans H; rw [hy101]; with_reducible exact H2_) | (have H2_ := (Option.bind_some _ _).symm.trans H; with_reducible exact H2_) | with_reducible exact H | (rw [hy101]; exact H) | exact H
  have Ny101 := Aside0.mk hy101
  clear hy101
  obtain rfl := Option.some.inj H
  go_enter Try.func23, Try.ntmps23
  go_wp2_with (first | ((with_reducible refine gate_dst (N := 14) rfl ?_); refine Kd.R_lit (Kd.int .u8) _ 5 ?hg (N := 14) ?hd (xs := ([(a0 / 16777216) % 256, (a0 / 65536) % 256, (a0 / 256) % 256, (a0) % 256] : List Int)) (inner := [.int .u8 ((a0 / 16777216) % 256), .int .u8 ((a0 / 65536) % 256), .int .u8 ((a0 / 256) % 256), .int .u8 ((a0) % 256)]) (ok := fun _ => True) (okp := fun _ => True) ?hr ?hp (fun _ hk => hk) trivial (Below.refl _ _) (Nat.le_refl _) (by simp) ?_; (case hd => rfl); (case hg => rfl); (case hr => exact qq9); (case hp => exact (Reps.one (show Kd.M (Kd.int .u8) _ _ _ ((a0 / 16777216) % 256) [.int .u8 ((a0 / 16777216) % 256)] from rfl) (Reps.one (show Kd.M (Kd.int .u8) _ _ _ ((a0 / 65536) % 256) [.int .u8 ((a0 / 65536) % 256)] from rfl) (Reps.one (show Kd.M (Kd.int .u8) _ _ _ ((a0 / 256) % 256) [.int .u8 ((a0 / 256) % 256)] from rfl) (Reps.one (show Kd.M (Kd.int .u8) _ _ _ ((a0) % 256) [.int .u8 ((a0) % 256)] from rfl) (Reps.none _ _)))))); intro v102 w2 ho3 hb hg_ hnew_; clear hg_ hnew_; (first | rw [← Ny101.out] at ho3 | (simp only [Int.reduceToNat] at ho3; rw [← Ny101.out] at ho3)); have HO103 := Aside0.mk (Kd.R_lower ho3 (below_size (qB HB.out))); replace HB := Aside0.mk (below_step (qB HB.out) hb); clear hb ho3; have hcv4 := own_string (P := Try.prog) Try.underlying39 Try.underlying5 Try.underlying9 (Kd.own_of_R HO103.out)))
  go_ret
  exact ⟨qq3, qB HB.out⟩
mutual
def partitalaw16_SmfChunks.j0 : Nat → ByteArray → Int → Bool → ByteArray → ByteArray → Int → Int → List (List (S28)) → Option (Bool)
  | 0, _, _, _, _, _, _, _, _ => none
  | k + 1, x2, x3, x9, x11, x13, x110000, x110001, x110002 => if 0 ≤ (mn (x2.size : Int) 200) then (if (mn (x2.size : Int) 200) ≤ (x2.size : Int) then (partitalaw16_SmfChunks.l0 k x3 x9 x11 x13 (x2.extract 0 ((mn (x2.size : Int) 200) : Int).toNat) 14 0 x110000 x110001 x110002) else (none)) else (none)
def partitalaw16_SmfChunks.l0 : Nat → Int → Bool → ByteArray → ByteArray → ByteArray → Int → Int → Int → Int → List (List (S28)) → Option (Bool)
  | 0, _, _, _, _, _, _, _, _, _, _ => none
  | k + 1, x3, x9, x11, x13, x14, x15, x16, x110000, x110001, x110002 => if (x110002.length : Int) = 0 then (none) else (if x16 < (Int.tmod (wrap64 (x3)) (x110002.length : Int)) then (if 0 ≤ x16 then (if x16 < (x110002.length : Int) then ((wire_Encode.f k (rd_L3 x110002 x16)).bind fun bt116 => (if bt116.2 = 0 then (partitalaw16_SmfChunks.l0 k x3 x9 x11 x13 x14 (wrap64 ((wrap64 (x15 + 8)) + (bt116.1.size : Int))) (wrap64 (x16 + 1)) x110000 x110001 x110002) else (some false))) else (none)) else (none)) else (if x15 > (x11.size : Int) then (some false) else ((partitalaw16_big.f (x14.size : Int)).bind fun t118 => (if x13.size + t118.size ≤ 9223372036854775807 then (if (x13 ++ t118).size + x14.size ≤ 9223372036854775807 then (if 0 ≤ x15 then (if x15 ≤ (x11.size : Int) then (if (x11.extract 0 (x15 : Int).toNat).size + ((x13 ++ t118) ++ x14).size ≤ 9223372036854775807 then (if ((x11.extract 0 (x15 : Int).toNat) ++ ((x13 ++ t118) ++ x14)).size + (x11.extract (x15 : Int).toNat x11.size).size ≤ 9223372036854775807 then ((smf_Parse.f k (((x11.extract 0 (x15 : Int).toNat) ++ ((x13 ++ t118) ++ x14)) ++ (x11.extract (x15 : Int).toNat x11.size))).bind fun bt119 => (if x11.size + ((x13 ++ t118) ++ x14).size ≤ 9223372036854775807 then ((smf_Parse.f k (x11 ++ ((x13 ++ t118) ++ x14))).bind fun bt127 => (if x9 = true then (if bt119.2.2.2.2 = 0 then (if bt119.2.2.2.1 = 0 then ((smf_Same.f k x110000 x110001 x110002 bt119.1 bt119.2.1 bt119.2.2.1).bind fun t135 => (if t135 = true then (if bt127.2.2.2.2 = 160 then (if bt127.2.2.2.1 = (x11.size : Int) then (some ((bt127.2.2.1.length : Int) == 0)) else (none)) else (none)) else (none))) else (none)) else (none)) else (none))) else (none))) else (none)) else (none)) else (none)) else (none)) else (none)) else (none)))))
end
def partitalaw16_SmfChunks.f (k : Nat) (a0_0 : Int) (a0_1 : Int) (l0_2 : List (List (S28))) (a1_0 : Int) (a1_1 : Int) (a1_2 : Int) (a1_3 : Int) (a2 : ByteArray) (a3 : Int) : Option (Bool) := (partitalaw16_examples.f k).bind fun t103 => (if t103 = true then ((partitalaw16_File.f k a0_0 a0_1 l0_2).bind fun bt104 => ((smf_Print.f k bt104.1 bt104.2.1 bt104.2.2).bind fun bt110 => (if bt110.2 = 0 then (if (bt110.1.size : Int) < 14 then (some false) else ((some (([a1_0, a1_1, a1_2, a1_3] : List Int) : List Int)).bind fun y112 => (if (strOfNums y112).toList = ([77, 84, 114, 107] : List UInt8) then (partitalaw16_SmfChunks.j0 k a2 a3 t103 bt110.1 (⟨#[88, 84, 114, 107]⟩ : ByteArray) bt104.1 bt104.2.1 bt104.2.2) else (partitalaw16_SmfChunks.j0 k a2 a3 t103 bt110.1 (strOfNums y112) bt104.1 bt104.2.1 bt104.2.2)))) else (none)))) else (some false))
theorem partitalaw16_SmfChunks.mono_l : ∀ k, (∀ y0 y1 y2 y3 y4 y5 y6 y7, LeO (partitalaw16_SmfChunks.j0 k y0 y1 y2 y3 y4 y5 y6 y7) (partitalaw16_SmfChunks.j0 (k + 1) y0 y1 y2 y3 y4 y5 y6 y7)) ∧ (∀ y0 y1 y2 y3 y4 y5 y6 y7 y8 y9, LeO (partitalaw16_SmfChunks.l0 k y0 y1 y2 y3 y4 y5 y6 y7 y8 y9) (partitalaw16_SmfChunks.l0 (k + 1) y0 y1 y2 y3 y4 y5 y6 y7 y8 y9))
  | 0 => ⟨fun _ _ _ _ _ _ _ _ r h => by simp [partitalaw16_SmfChunks.j0] at h, fun _ _ _ _ _ _ _ _ _ _ r h => by simp [partitalaw16_SmfChunks.l0] at h⟩
  | k + 1 => by
    obtain ⟨ih0, ih1⟩ := partitalaw16_SmfChunks.mono_l k
    refine ⟨?_, ?_⟩
    · intro y0 y1 y2 y3 y4 y5 y6 y7
      unfold partitalaw16_SmfChunks.j0
      repeat' first
      | (with_reducible exact ih0 _ _ _ _ _ _ _ _)
      | (with_reducible exact ih1 _ _ _ _ _ _ _ _ _ _)
      | (with_reducible exact partitalaw16_File.mono _ _ _ _)
      | (with_reducible exact partitalaw16_examples.mono _)
      | (with_reducible exact smf_Parse.mono _ _)
      | (with_reducible exact smf_Print.mono _ _ _ _)
      | (with_reducible exact smf_Same.mono _ _ _ _ _ _ _)
      | (with_reducible exact wire_Encode.mono _ _)
      | (with_reducible exact LeO.refl _)
      | (with_reducible exact LeO.none _)
      | (with_reducible refine LeO.ite ?_ ?_)
      | (with_reducible refine LeO.bind ?_ (fun _ => ?_))
      | exact ih0 _ _ _ _ _ _ _ _
      | exact ih1 _ _ _ _ _ _ _ _ _ _
      | exact partitalaw16_File.mono _ _ _ _
      | exact partitalaw16_examples.mono _
      | exact smf_Parse.mono _ _
      | exact smf_Print.mono _ _ _ _
      | exact smf_Same.mono _ _ _ _ _ _ _
      | exact wire_Encode.mono _ _
      | exact LeO.none _
      | refine LeO.ite ?_ ?_
      | refine LeO.bind ?_ (fun _ => ?_)
    · intro y0 y1 y2 y3 y4 y5 y6 y7 y8 y9
      unfold partitalaw16_SmfChunks.l0
      repeat' first
      | (with_reducible exact ih0 _ _ _ _ _ _ _ _)
      | (with_reducible exact ih1 _ _ _ _ _ _ _ _ _ _)
      | (with_reducible exact partitalaw16_File.mono _ _ _ _)
      | (with_reducible exact partitalaw16_examples.mono _)
      | (with_reducible exact smf_Parse.mono _ _)
      | (with_reducible exact smf_Print.mono _ _ _ _)
      | (with_reducible exact smf_Same.mono _ _ _ _ _ _ _)
      | (with_reducible exact wire_Encode.mono _ _)
      | (with_reducible exact LeO.refl _)
      | (with_reducible exact LeO.none _)
      | (with_reducible refine LeO.ite ?_ ?_)
      | (with_reducible refine LeO.bind ?_ (fun _ => ?_))
      | exact ih0 _ _ _ _ _ _ _ _
      | exact ih1 _ _ _ _ _ _ _ _ _ _
      | exact partitalaw16_File.mono _ _ _ _
      | exact partitalaw16_examples.mono _
      | exact smf_Parse.mono _ _
      | exact smf_Print.mono _ _ _ _
      | exact smf_Same.mono _ _ _ _ _ _ _
      | exact wire_Encode.mono _ _
      | exact LeO.none _
      | refine LeO.ite ?_ ?_
      | refine LeO.bind ?_ (fun _ => ?_)
theorem partitalaw16_SmfChunks.mono : ∀ a0 a1 a2 a3 a4 a5 a6 a7 a8 k, LeO (partitalaw16_SmfChunks.f k a0 a1 a2 a3 a4 a5 a6 a7 a8) (partitalaw16_SmfChunks.f (k + 1) a0 a1 a2 a3 a4 a5 a6 a7 a8) := by
  intro a0 a1 a2 a3 a4 a5 a6 a7 a8 k
  obtain ⟨ih0, ih1⟩ := partitalaw16_SmfChunks.mono_l k
  unfold partitalaw16_SmfChunks.f
  repeat' first
      | (with_reducible exact ih0 _ _ _ _ _ _ _ _)
      | (with_reducible exact ih1 _ _ _ _ _ _ _ _ _ _)
      | (with_reducible exact partitalaw16_File.mono _ _ _ _)
      | (with_reducible exact partitalaw16_examples.mono _)
      | (with_reducible exact smf_Parse.mono _ _)
      | (with_reducible exact smf_Print.mono _ _ _ _)
      | (with_reducible exact smf_Same.mono _ _ _ _ _ _ _)
      | (with_reducible exact wire_Encode.mono _ _)
      | (with_reducible exact LeO.refl _)
      | (with_reducible exact LeO.none _)
      | (with_reducible refine LeO.ite ?_ ?_)
      | (with_reducible refine LeO.bind ?_ (fun _ => ?_))
      | exact ih0 _ _ _ _ _ _ _ _
      | exact ih1 _ _ _ _ _ _ _ _ _ _
      | exact partitalaw16_File.mono _ _ _ _
      | exact partitalaw16_examples.mono _
      | exact smf_Parse.mono _ _
      | exact smf_Print.mono _ _ _ _
      | exact smf_Same.mono _ _ _ _ _ _ _
      | exact wire_Encode.mono _ _
      | exact LeO.none _
      | refine LeO.ite ?_ ?_
      | refine LeO.bind ?_ (fun _ => ?_)
def partitalaw16_SmfChunks.T23 : Bool × List (List Nat × List Nat) := (true, [([], []), ([], []), ([0, 1], [0, 1]), ([], []), ([2, 3], [2, 3]), ([], []), ([], []), ([5, 6], [5, 6]), ([4, 7], [4, 7]), ([8], [8]), ([9], [9]), ([10], [10]), ([10], [10]), ([10], [10]), ([], []), ([14, 11, 9, 0, 1, 2, 3, 4, 5, 6, 7, 8, 9, 10, 11, 14], [11, 14]), ([12, 15, 0, 1, 2, 3, 4, 5, 6, 7, 8, 9, 10, 11, 12, 14, 15], [12]), ([13, 16, 0, 1, 2, 3, 4, 5, 6, 7, 8, 9, 10, 11, 12, 13, 14, 15, 16], [13])])
def partitalaw16_SmfChunks.B23 : List Nat := [0, 0, 3, 0, 15, 0, 0, 96, 255, 511, 1023, 2047, 2047, 2047, 0, 20479, 57343, 131071]
theorem partitalaw16_SmfChunks.tab23 : rtab .any (opsOf Try.f6 23) = partitalaw16_SmfChunks.T23 := by kernel_rfl
theorem partitalaw16_SmfChunks.bits23 : waitsOk partitalaw16_SmfChunks.T23.2 partitalaw16_SmfChunks.B23 = true := by kernel_rfl
set_option maxHeartbeats 8000000 in
set_option maxRecDepth 100000 in
theorem partitalaw16_SmfChunks.calls (k : Nat) (a0_0 : Int) (a0_1 : Int) (A0_2 : Option Addr) (c0_2 : Nat) (l0_2 : List (List (S28))) (a1_0 : Int) (a1_1 : Int) (a1_2 : Int) (a1_3 : Int) (a2 : ByteArray) (a3 : Int) (r : Bool) (w : World) (hr0_2 : Kd.C (Kd.slice 28 k28) w A0_2 l0_2.length l0_2) (hc0_2 : l0_2.length ≤ c0_2) (h : partitalaw16_SmfChunks.f k a0_0 a0_1 l0_2 a1_0 a1_1 a1_2 a1_3 a2 a3 = some r) :
    Calls Try.prog 6 #[.agg #[.int .i64 a0_0, .int .i64 a0_1, .slice A0_2 l0_2.length c0_2], .agg #[.int .u8 a1_0, .int .u8 a1_1, .int .u8 a1_2, .int .u8 a1_3], .string a2, .int .u8 a3] w fun e w' => e = .returned (.bool r) ∧ Below w.heap.size w w' := by
  have hu24 := Try.underlying24
  have hu43 := Try.underlying43
  have HR0_2 := Aside0.mk hr0_2
  have HC0_2 := Aside0.mk hc0_2
  clear hr0_2 hc0_2
  have HB := Aside0.mk (Below.refl w.heap.size w)
  have H := h
  unfold partitalaw16_SmfChunks.f at H
  clear h
  replace H := Option.bind_eq_some_iff.mp H
  obtain ⟨t103, A50, H⟩ := H
  try dsimp -simprocs only at H
  have A5 := Aside0.mk A50
  clear A50
  by_cases c6 : t103 = true
  rotate_left
  · replace c6 := Bool.eq_false_iff.mpr c6
    subst c6
    have H1 : (some false) = some r := by rw [if_neg (show ¬ (false = true) by decide)] at H; exact H
    clear H
    have H := H1
    clear H1
    obtain rfl := Option.some.inj H
    go_enter Try.func6, Try.ntmps6
    go_wp2_with (first | ((with_reducible refine gate_dst (N := 4) rfl ?_); (try (refine gate_guard (by rfl) ?_; dsimp only)); refine box_event ?hg (N := 4) ?hd (cs := #[.int .i64 a0_0, .int .i64 a0_1, .slice A0_2 l0_2.length c0_2]) (t := 24) ?hr ?_; (case hd => rfl); (case hg => rfl); (case hr => exact qq9); intro gb101 hg w108 hbox hb; have BK101 := Aside0.mk (hbox); have GW101 := Aside0.mk ((qqa : w.heap.size ≤ gb101)); have GE101 := Aside0.mk ((qqa : w.heap.size ≤ gb101)); replace HB := Aside0.mk (below_step (qB HB.out) hb); clear hb hbox hg) | ((with_reducible refine gate_dst (N := 5) rfl ?_); (try (refine gate_guard (by rfl) ?_; dsimp only)); refine box_event ?hg (N := 5) ?hd (cs := #[.int .u8 a1_0, .int .u8 a1_1, .int .u8 a1_2, .int .u8 a1_3]) (t := 43) ?hr ?_; (case hd => rfl); (case hg => rfl); (case hr => exact qq9); intro gb102 hg w109 hbox hb; have BK102 := Aside0.mk (hbox); have GW102 := Aside0.mk ((qqj : w.heap.size ≤ gb102)); have GE102 := Aside0.mk ((qqj : w.heap.size ≤ gb102)); replace HB := Aside0.mk (below_step (qS1 GE101 HB.out) hb); have NB101_102 := Aside0.mk ((qqc : gb101 ≠ gb102)); have NB102_101 := Aside0.mk ((qqd : gb102 ≠ gb101)); replace BK101 := Aside0.mk (blk_below (bq BK101.out) hb); clear hb hbox hg) | ((with_reducible refine gate_callee (f := 11) rfl ?_); refine goesL_ (some 26) rfl rfl Try.func11 (by kernel_rfl) rfl #[] rfl qq0 ?_; (with_reducible refine (partitalaw16_examples.calls k  false _ A5.out).mono ?_); rintro e w110 ⟨rfl, hb⟩; refine ⟨_, rfl, ?_⟩; replace BK101 := Aside0.mk (blk_below (bq BK101.out) hb); replace BK102 := Aside0.mk (blk_below (bq BK102.out) hb); replace HB := Aside0.mk (below_step (qS2 GE101 GE102 HB.out) hb); (try clear hb); (try clear hb2); (try clear hk); (try clear hi)))
    go_ret
    exact ⟨qq3, qS2 GE101 GE102 HB.out⟩
  subst c6
  have H1 : ((partitalaw16_File.f k a0_0 a0_1 l0_2).bind fun bt104 => ((smf_Print.f k bt104.1 bt104.2.1 bt104.2.2).bind fun bt110 => (if bt110.2 = 0 then (if (bt110.1.size : Int) < 14 then (some false) else ((some (([a1_0, a1_1, a1_2, a1_3] : List Int) : List Int)).bind fun y112 => (if (strOfNums y112).toList = ([77, 84, 114, 107] : List UInt8) then (partitalaw16_SmfChunks.j0 k a2 a3 true bt110.1 (⟨#[88, 84, 114, 107]⟩ : ByteArray) bt104.1 bt104.2.1 bt104.2.2) else (partitalaw16_SmfChunks.j0 k a2 a3 true bt110.1 (strOfNums y112) bt104.1 bt104.2.1 bt104.2.2)))) else (none)))) = some r := by rw [if_pos rfl] at H; exact H
  clear H
  have H := H1
  clear H1
  replace H := Option.bind_eq_some_iff.mp H
  obtain ⟨⟨t104, t105, t106⟩, A70, H⟩ := H
  try dsimp -simprocs only at H
  have A7 := Aside0.mk A70
  clear A70
  replace H := Option.bind_eq_some_iff.mp H
  obtain ⟨⟨t110, t111⟩, A80, H⟩ := H
  try dsimp -simprocs only at H
  have A8 := Aside0.mk A80
  clear A80
  by_cases c9 : t111 = 0
  rotate_left
  · rw [if_neg c9] at H
    exact absurd H (by simp)
  rw [if_pos c9] at H
  have c9b0 : (t111 == 0) = true := beq_iff_eq.mpr c9
  have c9b1 : (t111 != 0) = false := bne_eq_false_iff_eq.mpr c9
  clear c9
  by_cases c10 : (t110.size : Int) < 14
  · rw [if_pos c10] at H
    have c10b0 : decide ((t110.size : Int) < 14) = true := decide_eq_true c10
    have c10b1 : decide (t110.size < 14) = true := decide_eq_true (by omega)
    clear c10
    obtain rfl := Option.some.inj H
    go_enter Try.func6, Try.ntmps6
    go_wp2_with (first | ((with_reducible refine gate_dst (N := 4) rfl ?_); (try (refine gate_guard (by rfl) ?_; dsimp only)); refine box_event ?hg (N := 4) ?hd (cs := #[.int .i64 a0_0, .int .i64 a0_1, .slice A0_2 l0_2.length c0_2]) (t := 24) ?hr ?_; (case hd => rfl); (case hg => rfl); (case hr => exact qq9); intro gb101 hg w11 hbox hb; have BK101 := Aside0.mk (hbox); have GW101 := Aside0.mk ((qqa : w.heap.size ≤ gb101)); have GE101 := Aside0.mk ((qqa : w.heap.size ≤ gb101)); replace HB := Aside0.mk (below_step (qB HB.out) hb); clear hb hbox hg) | ((with_reducible refine gate_dst (N := 5) rfl ?_); (try (refine gate_guard (by rfl) ?_; dsimp only)); refine box_event ?hg (N := 5) ?hd (cs := #[.int .u8 a1_0, .int .u8 a1_1, .int .u8 a1_2, .int .u8 a1_3]) (t := 43) ?hr ?_; (case hd => rfl); (case hg => rfl); (case hr => exact qq9); intro gb102 hg w12 hbox hb; have BK102 := Aside0.mk (hbox); have GW102 := Aside0.mk ((qqj : w.heap.size ≤ gb102)); have GE102 := Aside0.mk ((qqj : w.heap.size ≤ gb102)); replace HB := Aside0.mk (below_step (qS1 GE101 HB.out) hb); have NB101_102 := Aside0.mk ((qqc : gb101 ≠ gb102)); have NB102_101 := Aside0.mk ((qqd : gb102 ≠ gb101)); replace BK101 := Aside0.mk (blk_below (bq BK101.out) hb); clear hb hbox hg) | ((with_reducible refine gate_callee (f := 11) rfl ?_); refine goesL_ (some 26) rfl rfl Try.func11 (by kernel_rfl) rfl #[] rfl qq0 ?_; (with_reducible refine (partitalaw16_examples.calls k  true _ A5.out).mono ?_); rintro e w13 ⟨rfl, hb⟩; refine ⟨_, rfl, ?_⟩; replace BK101 := Aside0.mk (blk_below (bq BK101.out) hb); replace BK102 := Aside0.mk (blk_below (bq BK102.out) hb); replace HB := Aside0.mk (below_step (qS2 GE101 GE102 HB.out) hb); (try clear hb); (try clear hb2); (try clear hk); (try clear hi); have hnb14 := NB101_102.out; have hnc14 := NB102_101.out; obtain ⟨hcz15_0, hcz15_1, hcz15_2, hfz15_0, hfz15_1, hfz15_2⟩ := blk3 BK101.out) | ((with_reducible refine gate_callee (f := 12) rfl ?_); refine goesL_ (some 30) rfl rfl Try.func12 (by kernel_rfl) rfl #[.agg #[.int .i64 a0_0, .int .i64 a0_1, .slice A0_2 l0_2.length c0_2]] rfl qq0 ?_; (with_reducible refine (partitalaw16_File.calls k a0_0 a0_1 _ _ l0_2 t104 t105 t106 _ ?side1 ?side2 A7.out).mono ?_); (case side1 => repeat (first | exact (Kd.C_below HR0_2.out HB.out) | (with_reducible refine Kd.C_alloc ?_ _) | (with_reducible refine Kd.C_drewN ?_ _) | (with_reducible refine Kd.C_drew ?_))); (case side2 => exact HC0_2.out); rintro e w16 ⟨v107, rfl, ho0, hb⟩; refine ⟨_, rfl, ?_⟩; have HO108 := Aside0.mk (Kd.N_lower (Kd.N_mono (ok' := fun k_ => k_ ≠ gb101 ∧ k_ ≠ gb102) ho0 (fun k_ hk_ => ⟨(Kd.freshB (bq BK101.out) k_ hk_), (Kd.freshB (bq BK102.out) k_ hk_)⟩)) (below_size (qS2 GE101 GE102 HB.out))); replace BK101 := Aside0.mk (blk_below (bq BK101.out) hb); replace BK102 := Aside0.mk (blk_below (bq BK102.out) hb); replace HB := Aside0.mk (below_step (qS2 GE101 GE102 HB.out) hb); (try clear hb); (try clear hb2); (try clear hk); (try clear hi); (try clear ho0)) | ((with_reducible refine gate_dst (N := 10) rfl ?_); (try (refine gate_guard (by rfl) ?_; dsimp only)); refine box_event ?hg (N := 10) ?hd (cs := #[.int .i64 0, .int .i64 0, .slice none 0 0]) (t := 24) ?hr ?_; (case hd => rfl); (case hg => rfl); (case hr => exact qq9); intro gb109 hg w17 hbox hb; replace HO108 := Aside0.mk (Kd.N_below (Kd.N_elderB (qN HO108.out) gb109 (Nat.le_of_eq hg.symm)) hb); have BK109 := Aside0.mk (hbox); have GW109 := Aside0.mk ((qqe : w.heap.size ≤ gb109)); have GE109 := Aside0.mk ((qqe : w.heap.size ≤ gb109)); replace HB := Aside0.mk (below_step (qS2 GE101 GE102 HB.out) hb); have NB101_109 := Aside0.mk ((qqc : gb101 ≠ gb109)); have NB109_101 := Aside0.mk ((qqd : gb109 ≠ gb101)); replace BK101 := Aside0.mk (blk_below (bq BK101.out) hb); have NB102_109 := Aside0.mk ((qqg : gb102 ≠ gb109)); have NB109_102 := Aside0.mk ((qqh : gb109 ≠ gb102)); replace BK102 := Aside0.mk (blk_below (bq BK102.out) hb); clear hb hbox hg; have hnb18 := NB109_101.out; have hnc18 := NB101_109.out; have hnb19 := NB109_102.out; have hnc19 := NB102_109.out; obtain ⟨hcz20_0, hcz20_1, hcz20_2, hfz20_0, hfz20_1, hfz20_2⟩ := blk3 BK109.out; obtain ⟨Ao21, co21, eo21⟩ := Kd.N_slice HO108.out; subst eo21) | ((with_reducible refine gate_callee (f := 15) rfl ?_); refine goesL_ (some 33) rfl rfl Try.func15 (by kernel_rfl) rfl #[.agg #[.int .i64 t104, .int .i64 t105, .slice Ao21 t106.length co21]] rfl qq0 ?_; (with_reducible refine (smf_Print.calls k t104 t105 _ _ t106 t110 t111 _ ?side1 ?side2 A8.out).mono ?_); (case side1 => refine (Kd.N_reads' (e := 30) (base := w.heap.size) (ok := fun k_ => ((k_ ≠ gb101 ∧ k_ ≠ gb102) ∧ k_ ≠ gb109)) (n := t106.length) (c := co21) ?_).2.2; exact qqE); (case side2 => exact (Kd.N_reads' HO108.out).2.1); rintro e w22 ⟨rfl, hb⟩; refine ⟨_, rfl, ?_⟩; replace HO108 := Aside0.mk (Kd.N_below qqE hb); replace BK101 := Aside0.mk (blk_below (g := gb101) (o := .cells #[.int .i64 a0_0, .int .i64 a0_1, .slice A0_2 l0_2.length c0_2] 24 (0, 0)) (by refine bq ?_; refine blk_far ?_ NB101_109.out _; refine bq ?_; refine blk_far ?_ NB101_109.out _; refine bq ?_; refine blk_far ?_ NB101_109.out _; exact bq BK101.out) hb); replace BK102 := Aside0.mk (blk_below (g := gb102) (o := .cells #[.int .u8 a1_0, .int .u8 a1_1, .int .u8 a1_2, .int .u8 a1_3] 43 (0, 0)) (by refine bq ?_; refine blk_far ?_ NB102_109.out _; refine bq ?_; refine blk_far ?_ NB102_109.out _; refine bq ?_; refine blk_far ?_ NB102_109.out _; exact bq BK102.out) hb); replace BK109 := Aside0.mk (blk_below (g := gb109) (o := .cells #[.int .i64 t104, .int .i64 t105, .slice Ao21 t106.length co21] 24 (0, 0)) (by refine bq ?_; refine blk_put (cs := #[.int .i64 t104, .int .i64 t105, .slice none 0 0]) ?_ 2 _ rfl; refine bq ?_; refine blk_put (cs := #[.int .i64 t104, .int .i64 0, .slice none 0 0]) ?_ 1 _ rfl; refine bq ?_; refine blk_put (cs := #[.int .i64 0, .int .i64 0, .slice none 0 0]) ?_ 0 _ rfl; exact bq BK109.out) hb); replace HB := Aside0.mk (below_step (qS3 GE101 GE102 GE109 HB.out) hb); (try clear hb); (try clear hb2); (try clear hk); (try clear hi)))
    go_ret
    exact ⟨qq3, qS3 GE101 GE102 GE109 HB.out⟩
  rw [if_neg c10] at H
  have c10b0 : decide ((t110.size : Int) < 14) = false := decide_eq_false c10
  have c10b1 : decide (t110.size < 14) = false := decide_eq_false (by omega)
  clear c10
  obtain ⟨y112, hy112⟩ : ∃ y_ : List Int, y_ = (([a1_0, a1_1, a1_2, a1_3] : List Int)) := ⟨_, rfl⟩
  replace H : (if (strOfNums y112).toList = ([77, 84, 114, 107] : List UInt8) then (partitalaw16_SmfChunks.j0 k a2 a3 true t110 (⟨#[88, 84, 114, 107]⟩ : ByteArray) t104 t105 t106) else (partitalaw16_SmfChunks.j0 k a2 a3 true t110 (strOfNums y112) t104 t105 t106)) = some r := by first | (rw [hy112]; with_reducible exact H) | (have H2_ := (Option.bind_some _ _).symm.trans H; rw [hy112]; with_reducible exact H2_) | (have H2_ := (Option.bind_some _ _).symm.trans H; with_reducible exact H2_) | with_reducible exact H | (rw [hy112]; exact H) | exact H
  have Ny112 := Aside0.mk hy112
  clear hy112
  have HC23 := Aside0.mk H
  clear H
  go_enter Try.func6, Try.ntmps6
  go_upto_if 54 with (first | ((with_reducible refine gate_dst (N := 4) rfl ?_); (try (refine gate_guard (by rfl) ?_; dsimp only)); refine box_event ?hg (N := 4) ?hd (cs := #[.int .i64 a0_0, .int .i64 a0_1, .slice A0_2 l0_2.length c0_2]) (t := 24) ?hr ?_; (case hd => rfl); (case hg => rfl); (case hr => exact qq9); intro gb101 hg w24 hbox hb; have BK101 := Aside0.mk (hbox); have GW101 := Aside0.mk ((qqa : w.heap.size ≤ gb101)); have GE101 := Aside0.mk ((qqa : w.heap.size ≤ gb101)); replace HB := Aside0.mk (below_step (qB HB.out) hb); clear hb hbox hg) | ((with_reducible refine gate_dst (N := 5) rfl ?_); (try (refine gate_guard (by rfl) ?_; dsimp only)); refine box_event ?hg (N := 5) ?hd (cs := #[.int .u8 a1_0, .int .u8 a1_1, .int .u8 a1_2, .int .u8 a1_3]) (t := 43) ?hr ?_; (case hd => rfl); (case hg => rfl); (case hr => exact qq9); intro gb102 hg w25 hbox hb; have BK102 := Aside0.mk (hbox); have GW102 := Aside0.mk ((qqj : w.heap.size ≤ gb102)); have GE102 := Aside0.mk ((qqj : w.heap.size ≤ gb102)); replace HB := Aside0.mk (below_step (qS1 GE101 HB.out) hb); have NB101_102 := Aside0.mk ((qqc : gb101 ≠ gb102)); have NB102_101 := Aside0.mk ((qqd : gb102 ≠ gb101)); replace BK101 := Aside0.mk (blk_below (bq BK101.out) hb); clear hb hbox hg) | ((with_reducible refine gate_callee (f := 11) rfl ?_); refine goesL_ (some 26) rfl rfl Try.func11 (by kernel_rfl) rfl #[] rfl qq0 ?_; (with_reducible refine (partitalaw16_examples.calls k  true _ A5.out).mono ?_); rintro e w26 ⟨rfl, hb⟩; refine ⟨_, rfl, ?_⟩; replace BK101 := Aside0.mk (blk_below (bq BK101.out) hb); replace BK102 := Aside0.mk (blk_below (bq BK102.out) hb); replace HB := Aside0.mk (below_step (qS2 GE101 GE102 HB.out) hb); (try clear hb); (try clear hb2); (try clear hk); (try clear hi); have hnb27 := NB101_102.out; have hnc27 := NB102_101.out; obtain ⟨hcz28_0, hcz28_1, hcz28_2, hfz28_0, hfz28_1, hfz28_2⟩ := blk3 BK101.out) | ((with_reducible refine gate_callee (f := 12) rfl ?_); refine goesL_ (some 30) rfl rfl Try.func12 (by kernel_rfl) rfl #[.agg #[.int .i64 a0_0, .int .i64 a0_1, .slice A0_2 l0_2.length c0_2]] rfl qq0 ?_; (with_reducible refine (partitalaw16_File.calls k a0_0 a0_1 _ _ l0_2 t104 t105 t106 _ ?side1 ?side2 A7.out).mono ?_); (case side1 => repeat (first | exact (Kd.C_below HR0_2.out HB.out) | (with_reducible refine Kd.C_alloc ?_ _) | (with_reducible refine Kd.C_drewN ?_ _) | (with_reducible refine Kd.C_drew ?_))); (case side2 => exact HC0_2.out); rintro e w29 ⟨v107, rfl, ho0, hb⟩; refine ⟨_, rfl, ?_⟩; have HO108 := Aside0.mk (Kd.N_lower (Kd.N_mono (ok' := fun k_ => k_ ≠ gb101 ∧ k_ ≠ gb102) ho0 (fun k_ hk_ => ⟨(Kd.freshB (bq BK101.out) k_ hk_), (Kd.freshB (bq BK102.out) k_ hk_)⟩)) (below_size (qS2 GE101 GE102 HB.out))); replace BK101 := Aside0.mk (blk_below (bq BK101.out) hb); replace BK102 := Aside0.mk (blk_below (bq BK102.out) hb); replace HB := Aside0.mk (below_step (qS2 GE101 GE102 HB.out) hb); (try clear hb); (try clear hb2); (try clear hk); (try clear hi); (try clear ho0)) | ((with_reducible refine gate_dst (N := 10) rfl ?_); (try (refine gate_guard (by rfl) ?_; dsimp only)); refine box_event ?hg (N := 10) ?hd (cs := #[.int .i64 0, .int .i64 0, .slice none 0 0]) (t := 24) ?hr ?_; (case hd => rfl); (case hg => rfl); (case hr => exact qq9); intro gb109 hg w30 hbox hb; replace HO108 := Aside0.mk (Kd.N_below (Kd.N_elderB (qN HO108.out) gb109 (Nat.le_of_eq hg.symm)) hb); have BK109 := Aside0.mk (hbox); have GW109 := Aside0.mk ((qqe : w.heap.size ≤ gb109)); have GE109 := Aside0.mk ((qqe : w.heap.size ≤ gb109)); replace HB := Aside0.mk (below_step (qS2 GE101 GE102 HB.out) hb); have NB101_109 := Aside0.mk ((qqc : gb101 ≠ gb109)); have NB109_101 := Aside0.mk ((qqd : gb109 ≠ gb101)); replace BK101 := Aside0.mk (blk_below (bq BK101.out) hb); have NB102_109 := Aside0.mk ((qqg : gb102 ≠ gb109)); have NB109_102 := Aside0.mk ((qqh : gb109 ≠ gb102)); replace BK102 := Aside0.mk (blk_below (bq BK102.out) hb); clear hb hbox hg; have hnb31 := NB109_101.out; have hnc31 := NB101_109.out; have hnb32 := NB109_102.out; have hnc32 := NB102_109.out; obtain ⟨hcz33_0, hcz33_1, hcz33_2, hfz33_0, hfz33_1, hfz33_2⟩ := blk3 BK109.out; obtain ⟨Ao34, co34, eo34⟩ := Kd.N_slice HO108.out; subst eo34) | ((with_reducible refine gate_callee (f := 15) rfl ?_); refine goesL_ (some 33) rfl rfl Try.func15 (by kernel_rfl) rfl #[.agg #[.int .i64 t104, .int .i64 t105, .slice Ao34 t106.length co34]] rfl qq0 ?_; (with_reducible refine (smf_Print.calls k t104 t105 _ _ t106 t110 t111 _ ?side1 ?side2 A8.out).mono ?_); (case side1 => refine (Kd.N_reads' (e := 30) (base := w.heap.size) (ok := fun k_ => ((k_ ≠ gb101 ∧ k_ ≠ gb102) ∧ k_ ≠ gb109)) (n := t106.length) (c := co34) ?_).2.2; exact qqD); (case side2 => exact (Kd.N_reads' HO108.out).2.1); rintro e w35 ⟨rfl, hb⟩; refine ⟨_, rfl, ?_⟩; replace HO108 := Aside0.mk (Kd.N_below qqD hb); replace BK101 := Aside0.mk (blk_below (g := gb101) (o := .cells #[.int .i64 a0_0, .int .i64 a0_1, .slice A0_2 l0_2.length c0_2] 24 (0, 0)) (by refine bq ?_; refine blk_far ?_ NB101_109.out _; refine bq ?_; refine blk_far ?_ NB101_109.out _; refine bq ?_; refine blk_far ?_ NB101_109.out _; exact bq BK101.out) hb); replace BK102 := Aside0.mk (blk_below (g := gb102) (o := .cells #[.int .u8 a1_0, .int .u8 a1_1, .int .u8 a1_2, .int .u8 a1_3] 43 (0, 0)) (by refine bq ?_; refine blk_far ?_ NB102_109.out _; refine bq ?_; refine blk_far ?_ NB102_109.out _; refine bq ?_; refine blk_far ?_ NB102_109.out _; exact bq BK102.out) hb); replace BK109 := Aside0.mk (blk_below (g := gb109) (o := .cells #[.int .i64 t104, .int .i64 t105, .slice Ao34 t106.length co34] 24 (0, 0)) (by refine bq ?_; refine blk_put (cs := #[.int .i64 t104, .int .i64 t105, .slice none 0 0]) ?_ 2 _ rfl; refine bq ?_; refine blk_put (cs := #[.int .i64 t104, .int .i64 0, .slice none 0 0]) ?_ 1 _ rfl; refine bq ?_; refine blk_put (cs := #[.int .i64 0, .int .i64 0, .slice none 0 0]) ?_ 0 _ rfl; exact bq BK109.out) hb); replace HB := Aside0.mk (below_step (qS3 GE101 GE102 GE109 HB.out) hb); (try clear hb); (try clear hb2); (try clear hk); (try clear hi); have hcz36_0 : w35.cell? ⟨gb102, 0, none⟩ = some (.int .u8 a1_0) := (blk_cell BK102.out 0).trans rfl; have hcz36_1 : w35.cell? ⟨gb102, 1, none⟩ = some (.int .u8 a1_1) := (blk_cell BK102.out 1).trans rfl; have hcz36_2 : w35.cell? ⟨gb102, 2, none⟩ = some (.int .u8 a1_2) := (blk_cell BK102.out 2).trans rfl; have hcz36_3 : w35.cell? ⟨gb102, 3, none⟩ = some (.int .u8 a1_3) := (blk_cell BK102.out 3).trans rfl; have hfz36_0 := blk_frozen BK102.out 0; have hfz36_1 := blk_frozen BK102.out 1; have hfz36_2 := blk_frozen BK102.out 2; have hfz36_3 := blk_frozen BK102.out 3) | ((with_reducible refine gate_dst (N := 51) rfl ?_); (try (refine gate_guard (by rfl) ?_; dsimp only)); refine Kd.R_lit (Kd.int .u8) _ 5 ?hg (N := 51) ?hd (xs := ([a1_0, a1_1, a1_2, a1_3] : List Int)) (inner := [.int .u8 a1_0, .int .u8 a1_1, .int .u8 a1_2, .int .u8 a1_3]) (ok := fun _ => True) (okp := fun _ => True) ?hr ?hp (fun _ hk => hk) trivial (Below.refl _ _) (Nat.le_refl _) (by simp) ?_; (case hd => rfl); (case hg => rfl); (case hr => exact qq9); (case hp => exact (Reps.one (show Kd.M (Kd.int .u8) _ _ _ a1_0 [.int .u8 a1_0] from rfl) (Reps.one (show Kd.M (Kd.int .u8) _ _ _ a1_1 [.int .u8 a1_1] from rfl) (Reps.one (show Kd.M (Kd.int .u8) _ _ _ a1_2 [.int .u8 a1_2] from rfl) (Reps.one (show Kd.M (Kd.int .u8) _ _ _ a1_3 [.int .u8 a1_3] from rfl) (Reps.none _ _)))))); intro v113 w37 ho38 hb hg_ hnew_; clear hg_ hnew_; (first | rw [← Ny112.out] at ho38 | (simp only [Int.reduceToNat] at ho38; rw [← Ny112.out] at ho38)); replace HO108 := Aside0.mk (Kd.N_elder' (qN HO108.out) (Kd.R_base ho38) hb); have HO114 := Aside0.mk (Kd.R_lower ho38 (below_size (qS3 GE101 GE102 GE109 HB.out))); replace BK101 := Aside0.mk (blk_below (bq BK101.out) hb); replace BK102 := Aside0.mk (blk_below (bq BK102.out) hb); replace BK109 := Aside0.mk (blk_below (bq BK109.out) hb); replace HB := Aside0.mk (below_step (qS3 GE101 GE102 GE109 HB.out) hb); clear hb ho38; have hcv39 := own_string (P := Try.prog) Try.underlying39 Try.underlying5 Try.underlying9 (Kd.own_of_R HO114.out)))
  (try simp only [Act.put, List.setIfInBounds_toArray, List.set_cons_zero, List.set_cons_succ])
  go_cut [13] (fun v13 wc => ∃ (kq : Nat) (x13_22 : ByteArray), v13 = .string x13_22 ∧ Aside0 (partitalaw16_SmfChunks.j0 kq a2 a3 true t110 x13_22 t104 t105 t106 = some r) ∧ Aside0 (kq ≤ k) ∧ Aside0 (Kd.N (Kd.slice 28 k28) 30 wc w.heap.size (fun k_ => k_ ≠ gb101 ∧ k_ ≠ gb102 ∧ k_ ≠ gb109) (.slice Ao34 t106.length co34) t106) ∧ Aside0 (wc.heap[gb101]? = some (.cells #[.int .i64 a0_0, .int .i64 a0_1, (.slice A0_2 l0_2.length c0_2)] 24 (0, 0))) ∧ Aside0 (wc.heap[gb102]? = some (.cells #[.int .u8 a1_0, .int .u8 a1_1, .int .u8 a1_2, .int .u8 a1_3] 43 (0, 0))) ∧ Aside0 (wc.heap[gb109]? = some (.cells #[.int .i64 t104, .int .i64 t105, (.slice Ao34 t106.length co34)] 24 (0, 0))) ∧ Aside0 (Below w.heap.size w wc))
  case first =>
    have H := HC23.out
    clear HC23
    by_cases c40 : (strOfNums y112).toList = ([77, 84, 114, 107] : List UInt8)
    rotate_left
    · rw [if_neg c40] at H
      have c40b0 : ((strOfNums y112).toList == ([77, 84, 114, 107] : List UInt8)) = false := beq_eq_false_iff_ne.mpr c40
      have c40b1 : ((strOfNums y112).toList != ([77, 84, 114, 107] : List UInt8)) = true := bne_iff_ne.mpr c40
      (first | rw [c40b0] | (simp only [i64_w, i32_w]; rw [c40b0]) | skip)
      have H' := Aside0.mk H
      clear H
      go_wp2
      go_meet
      case rel => exact ⟨_, (strOfNums y112), qq7, H', ⟨qqv⟩, ⟨qqR⟩, ⟨bq BK101.out⟩, ⟨bq BK102.out⟩, ⟨bq BK109.out⟩, ⟨qS3 GE101 GE102 GE109 HB.out⟩⟩
    rw [if_pos c40] at H
    have c40b0 : ((strOfNums y112).toList == ([77, 84, 114, 107] : List UInt8)) = true := beq_iff_eq.mpr c40
    have c40b1 : ((strOfNums y112).toList != ([77, 84, 114, 107] : List UInt8)) = false := bne_eq_false_iff_eq.mpr c40
    clear c40
    (first | rw [c40b0] | (simp only [i64_w, i32_w]; rw [c40b0]) | skip)
    have H' := Aside0.mk H
    clear H
    go_wp2
    go_meet
    case rel => exact ⟨_, ((⟨#[88, 84, 114, 107]⟩ : ByteArray)), qq7, H', ⟨qqv⟩, ⟨qqR⟩, ⟨bq BK101.out⟩, ⟨bq BK102.out⟩, ⟨bq BK109.out⟩, ⟨qS3 GE101 GE102 GE109 HB.out⟩⟩
  case rest =>
    clear HC23
    try clear c1
    try clear c2
    try clear p2
    try clear c3
    try clear hcv3
    try clear c4
    try clear c6
    try clear c9
    try clear c9b0
    try clear c9b1
    try clear c10
    try clear c10b0
    try clear c10b1
    try clear c11
    try clear c12
    try clear c14
    try clear c15
    try clear c18
    try clear c19
    try clear c27
    try clear c31
    try clear c32
    try clear hcv39
    try clear c40
    try clear c40b0
    try clear c40b1
    try clear hcz15_0
    try clear hcz15_1
    try clear hcz15_2
    try clear hcz20_0
    try clear hcz20_1
    try clear hcz20_2
    try clear hcz28_0
    try clear hcz28_1
    try clear hcz28_2
    try clear hcz33_0
    try clear hcz33_1
    try clear hcz33_2
    try clear hcz36_0
    try clear hcz36_1
    try clear hcz36_2
    try clear hcz36_3
    try clear hfz15_0
    try clear hfz15_1
    try clear hfz15_2
    try clear hfz20_0
    try clear hfz20_1
    try clear hfz20_2
    try clear hfz28_0
    try clear hfz28_1
    try clear hfz28_2
    try clear hfz33_0
    try clear hfz33_1
    try clear hfz33_2
    try clear hfz36_0
    try clear hfz36_1
    try clear hfz36_2
    try clear hfz36_3
    obtain ⟨kq, x13_22, rfl, HA, HJ22, HO_110002, BK101, BK102, BK109, HB⟩ := hcut
    cases kq with
    | zero => exact absurd HA.out (by simp [partitalaw16_SmfChunks.j0])
    | succ kj22 =>
      have H := HA.out
      clear HA
      simp only [partitalaw16_SmfChunks.j0] at H
      obtain ⟨ji41, hji41⟩ : ∃ j_ : Int, (mn (a2.size : Int) 200) = j_ := ⟨_, rfl⟩
      replace H : (if 0 ≤ (ji41) then (if (ji41) ≤ (a2.size : Int) then (partitalaw16_SmfChunks.l0 kj22 a3 true t110 x13_22 (a2.extract 0 ((ji41) : Int).toNat) 14 0 t104 t105 t106) else (none)) else (none)) = some r := by first | (rw [hji41] at H; exact H) | (simp only [hji41] at H ⊢; exact H)
      have hji41_ : (if 200 < (a2.size : Int) then 200 else (a2.size : Int)) = ji41 := hji41
      by_cases c42 : 0 ≤ (ji41)
      rotate_left
      · rw [if_neg c42] at H
        exact absurd H (by simp)
      rw [if_pos c42] at H
      have c42b0 := eq_true c42
      have c42b1 : decide (0 ≤ (ji41)) = true := decide_eq_true c42
      clear c42
      by_cases c43 : (ji41) ≤ (a2.size : Int)
      rotate_left
      · rw [if_neg c43] at H
        exact absurd H (by simp)
      rw [if_pos c43] at H
      have c43b0 := eq_true c43
      have c43b1 : decide ((ji41) ≤ (a2.size : Int)) = true := decide_eq_true c43
      clear c43
      have H' := Aside0.mk H
      clear H
      go_wp2
      go_loopg [15, 16] kj22 (fun kq v15 v16 w' => ∃ (x15_2 : Int) (x16_2 : Int), v15 = .int .i64 x15_2 ∧ v16 = .int .i64 x16_2 ∧ Aside0 (partitalaw16_SmfChunks.l0 kq a3 true t110 x13_22 (a2.extract 0 ((ji41) : Int).toNat) x15_2 x16_2 t104 t105 t106 = some r) ∧ Aside0 (kq ≤ kj22) ∧ Aside0 (Kd.N (Kd.slice 28 k28) 30 w' w.heap.size (fun k_ => k_ ≠ gb101 ∧ k_ ≠ gb102 ∧ k_ ≠ gb109) (.slice Ao34 t106.length co34) t106) ∧ Aside0 (w'.heap[gb101]? = some (.cells #[.int .i64 a0_0, .int .i64 a0_1, (.slice A0_2 l0_2.length c0_2)] 24 (0, 0))) ∧ Aside0 (w'.heap[gb102]? = some (.cells #[.int .u8 a1_0, .int .u8 a1_1, .int .u8 a1_2, .int .u8 a1_3] 43 (0, 0))) ∧ Aside0 (w'.heap[gb109]? = some (.cells #[.int .i64 t104, .int .i64 t105, (.slice Ao34 t106.length co34)] 24 (0, 0))) ∧ Aside0 (Below w.heap.size w w'))
      case atStart => exact ⟨(14), (0), qq7, qq7, H', ⟨Nat.le_refl _⟩, ⟨qN HO_110002.out⟩, ⟨bq BK101.out⟩, ⟨bq BK102.out⟩, ⟨bq BK109.out⟩, ⟨qS3 GE101 GE102 GE109 HB.out⟩⟩
      case round =>
        clear H'
        try clear c1
        try clear c2
        try clear p2
        try clear c3
        try clear hcv3
        try clear c4
        try clear c6
        try clear c9
        try clear c9b0
        try clear c9b1
        try clear c10
        try clear c10b0
        try clear c10b1
        try clear c11
        try clear c12
        try clear c14
        try clear c15
        try clear c18
        try clear c19
        try clear c27
        try clear c31
        try clear c32
        try clear hcv39
        try clear c40
        try clear c40b0
        try clear c40b1
        try clear c42
        try clear c42b0
        try clear c42b1
        try clear c43
        try clear c43b0
        try clear c43b1
        try clear hcz15_0
        try clear hcz15_1
        try clear hcz15_2
        try clear hcz20_0
        try clear hcz20_1
        try clear hcz20_2
        try clear hcz28_0
        try clear hcz28_1
        try clear hcz28_2
        try clear hcz33_0
        try clear hcz33_1
        try clear hcz33_2
        try clear hcz36_0
        try clear hcz36_1
        try clear hcz36_2
        try clear hcz36_3
        try clear hfz15_0
        try clear hfz15_1
        try clear hfz15_2
        try clear hfz20_0
        try clear hfz20_1
        try clear hfz20_2
        try clear hfz28_0
        try clear hfz28_1
        try clear hfz28_2
        try clear hfz33_0
        try clear hfz33_1
        try clear hfz33_2
        try clear hfz36_0
        try clear hfz36_1
        try clear hfz36_2
        try clear hfz36_3
        try clear p2
        obtain ⟨x15_2, x16_2, rfl, rfl, HA, HK2, HO_110002, BK101, BK102, BK109, HB⟩ := hrel
        cases gk with
        | zero => exact absurd HA.out (by simp [partitalaw16_SmfChunks.l0])
        | succ k2 =>
          have H := HA.out
          clear HA
          simp only [partitalaw16_SmfChunks.l0] at H
          by_cases c44 : (t106.length : Int) = 0
          · rw [if_pos c44] at H
            exact absurd H (by simp)
          rw [if_neg c44] at H
          have c44b0 : ((t106.length : Int) == 0) = false := beq_eq_false_iff_ne.mpr c44
          have c44b1 : ((t106.length : Int) != 0) = true := bne_iff_ne.mpr c44
          have c44b2 : ¬ (t106 = []) := fun h_ => c44 (by rw [h_]; rfl)
          by_cases c45 : x16_2 < (Int.tmod (wrap64 (a3)) (t106.length : Int))
          · rw [if_pos c45] at H
            have c45b0 : decide (x16_2 < (Int.tmod (wrap64 (a3)) (t106.length : Int))) = true := decide_eq_true c45
            clear c45
            by_cases c46 : 0 ≤ x16_2
            rotate_left
            · rw [if_neg c46] at H
              exact absurd H (by simp)
            rw [if_pos c46] at H
            have c46b0 : decide (0 ≤ x16_2) = true := decide_eq_true c46
            clear c46
            by_cases c47 : x16_2 < (t106.length : Int)
            rotate_left
            · rw [if_neg c47] at H
              exact absurd H (by simp)
            rw [if_pos c47] at H
            have c47b0 : decide (x16_2 < (t106.length : Int)) = true := decide_eq_true c47
            clear c47
            replace H := Option.bind_eq_some_iff.mp H
            obtain ⟨⟨t116, t117⟩, A480, H⟩ := H
            try dsimp -simprocs only at H
            have A48 := Aside0.mk A480
            clear A480
            by_cases c49 : t117 = 0
            rotate_left
            · rw [if_neg c49] at H
              have c49b0 : (t117 == 0) = false := beq_eq_false_iff_ne.mpr c49
              have c49b1 : (t117 != 0) = true := bne_iff_ne.mpr c49
              obtain rfl := Option.some.inj H
              have hnb54 := NB109_101.out
              have hnc54 := NB101_109.out
              have hnb55 := NB109_102.out
              have hnc55 := NB102_109.out
              obtain ⟨hcz56_0, hcz56_1, hcz56_2, hfz56_0, hfz56_1, hfz56_2⟩ := blk3 BK109.out
              have p115 : 0 ≤ (x16_2 : Int) := of_decide_eq_true qq5
              have q115 : x16_2 < (t106.length : Int) := of_decide_eq_true qq5
              obtain ⟨ad115, A115_0, c115_0, e115, hx115_0, hl115_0, hi115_0⟩ := at_L3 (Kd.N_reads' HO_110002.out).2.2 x16_2 p115 q115
              cases e115
              obtain ⟨ce115, hce115, hMe115, hcc115⟩ := Kd.N_get HO_110002.out [] x16_2 p115 qq13
              obtain ⟨ua115_0, uc115_0, rfl, ul115_0, ge115_0⟩ := Kd.FK_slice_open hMe115
              have hv115_0 := hcc115 0 _ rfl
              rw [Nat.add_zero, show ((Kd.slice 28 k28)).sz = 1 from rfl, Nat.mul_one] at hv115_0
              replace hv115_0 := Option.some.inj (hv115_0.symm.trans hx115_0)
              injection hv115_0 with hva_ hvn_ hvc_
              rw [hva_] at ge115_0
              rw [hvc_] at ul115_0
              have HL115_0 := Aside0.mk (show Kd.V k28 28 _ w.heap.size _ _ (rd_L3 t106 x16_2) from Kd.V_mk ul115_0 ge115_0)
              clear hva_ hvn_ hvc_ ge115_0 ul115_0
              clear hcc115 hce115
              have HR115_0 := Aside0.mk hi115_0
              have HC115_0 := Aside0.mk hl115_0
              clear hi115_0 hl115_0
              replace p115 := eq_true p115
              replace q115 := eq_true q115
              go_wp2_with (first | ((with_reducible refine gate_callee (f := 22) rfl ?_); refine goesL_ (some 76) rfl rfl Try.func22 (by kernel_rfl) rfl #[.slice A115_0 (rd_L3 t106 x16_2).length c115_0] rfl qq0 ?_; (with_reducible refine (wire_Encode.calls k2 _ _ (rd_L3 t106 x16_2) t116 t117 _ ?side1 ?side2 A48.out).mono ?_); (case side1 => repeat (first | exact (by repeat (first | (with_reducible exact HR115_0.out) | (with_reducible refine Kd.C_alloc ?_ _) | (with_reducible refine Kd.C_drewN ?_ _) | (with_reducible refine Kd.C_drew ?_) | exact HR115_0.out)) | (with_reducible refine Kd.C_alloc ?_ _) | (with_reducible refine Kd.C_drewN ?_ _) | (with_reducible refine Kd.C_drew ?_))); (case side2 => exact HC115_0.out); rintro e w57 ⟨rfl, hb⟩; refine ⟨_, rfl, ?_⟩; replace HO_110002 := Aside0.mk (Kd.N_below (qN HO_110002.out) hb); replace HL115_0 := Aside0.mk (Kd.V_below (qV HL115_0.out) hb); replace BK101 := Aside0.mk (blk_below (bq BK101.out) hb); replace BK102 := Aside0.mk (blk_below (bq BK102.out) hb); replace BK109 := Aside0.mk (blk_below (bq BK109.out) hb); replace HR115_0 := Aside0.mk (Kd.C_below (by repeat (first | (with_reducible exact HR115_0.out) | (with_reducible refine Kd.C_alloc ?_ _) | (with_reducible refine Kd.C_drewN ?_ _) | (with_reducible refine Kd.C_drew ?_) | exact HR115_0.out)) hb); replace HB := Aside0.mk (below_step (qS3 GE101 GE102 GE109 HB.out) hb); (try clear hb); (try clear hb2); (try clear hk); (try clear hi)))
              go_ret
              exact ⟨qqH, qS3 GE101 GE102 GE109 HB.out⟩
            rw [if_pos c49] at H
            have c49b0 : (t117 == 0) = true := beq_iff_eq.mpr c49
            have c49b1 : (t117 != 0) = false := bne_eq_false_iff_eq.mpr c49
            clear c49
            have H' := Aside0.mk H
            clear H
            have hnb50 := NB109_101.out
            have hnc50 := NB101_109.out
            have hnb51 := NB109_102.out
            have hnc51 := NB102_109.out
            obtain ⟨hcz52_0, hcz52_1, hcz52_2, hfz52_0, hfz52_1, hfz52_2⟩ := blk3 BK109.out
            have p115 : 0 ≤ (x16_2 : Int) := of_decide_eq_true qq5
            have q115 : x16_2 < (t106.length : Int) := of_decide_eq_true qq5
            obtain ⟨ad115, A115_0, c115_0, e115, hx115_0, hl115_0, hi115_0⟩ := at_L3 (Kd.N_reads' HO_110002.out).2.2 x16_2 p115 q115
            cases e115
            obtain ⟨ce115, hce115, hMe115, hcc115⟩ := Kd.N_get HO_110002.out [] x16_2 p115 qq13
            obtain ⟨ua115_0, uc115_0, rfl, ul115_0, ge115_0⟩ := Kd.FK_slice_open hMe115
            have hv115_0 := hcc115 0 _ rfl
            rw [Nat.add_zero, show ((Kd.slice 28 k28)).sz = 1 from rfl, Nat.mul_one] at hv115_0
            replace hv115_0 := Option.some.inj (hv115_0.symm.trans hx115_0)
            injection hv115_0 with hva_ hvn_ hvc_
            rw [hva_] at ge115_0
            rw [hvc_] at ul115_0
            have HL115_0 := Aside0.mk (show Kd.V k28 28 _ w.heap.size _ _ (rd_L3 t106 x16_2) from Kd.V_mk ul115_0 ge115_0)
            clear hva_ hvn_ hvc_ ge115_0 ul115_0
            clear hcc115 hce115
            have HR115_0 := Aside0.mk hi115_0
            have HC115_0 := Aside0.mk hl115_0
            clear hi115_0 hl115_0
            replace p115 := eq_true p115
            replace q115 := eq_true q115
            go_wp2_with (first | ((with_reducible refine gate_callee (f := 22) rfl ?_); refine goesL_ (some 76) rfl rfl Try.func22 (by kernel_rfl) rfl #[.slice A115_0 (rd_L3 t106 x16_2).length c115_0] rfl qq0 ?_; (with_reducible refine (wire_Encode.calls k2 _ _ (rd_L3 t106 x16_2) t116 t117 _ ?side1 ?side2 A48.out).mono ?_); (case side1 => repeat (first | exact (by repeat (first | (with_reducible exact HR115_0.out) | (with_reducible refine Kd.C_alloc ?_ _) | (with_reducible refine Kd.C_drewN ?_ _) | (with_reducible refine Kd.C_drew ?_) | exact HR115_0.out)) | (with_reducible refine Kd.C_alloc ?_ _) | (with_reducible refine Kd.C_drewN ?_ _) | (with_reducible refine Kd.C_drew ?_))); (case side2 => exact HC115_0.out); rintro e w53 ⟨rfl, hb⟩; refine ⟨_, rfl, ?_⟩; replace HO_110002 := Aside0.mk (Kd.N_below (qN HO_110002.out) hb); replace HL115_0 := Aside0.mk (Kd.V_below (qV HL115_0.out) hb); replace BK101 := Aside0.mk (blk_below (bq BK101.out) hb); replace BK102 := Aside0.mk (blk_below (bq BK102.out) hb); replace BK109 := Aside0.mk (blk_below (bq BK109.out) hb); replace HR115_0 := Aside0.mk (Kd.C_below (by repeat (first | (with_reducible exact HR115_0.out) | (with_reducible refine Kd.C_alloc ?_ _) | (with_reducible refine Kd.C_drewN ?_ _) | (with_reducible refine Kd.C_drew ?_) | exact HR115_0.out)) hb); replace HB := Aside0.mk (below_step (qS3 GE101 GE102 GE109 HB.out) hb); (try clear hb); (try clear hb2); (try clear hk); (try clear hi)))
            go_roundg k2
            case measure => have := HJ22.out; have := HK2.out; omega
            case rel => exact ⟨(wrap64 ((wrap64 (x15_2 + 8)) + (t116.size : Int))), (wrap64 (x16_2 + 1)), qq7, qq7, H', ⟨by have := HJ22.out; have := HK2.out; omega⟩, ⟨qN HO_110002.out⟩, ⟨bq BK101.out⟩, ⟨bq BK102.out⟩, ⟨bq BK109.out⟩, ⟨qS3 GE101 GE102 GE109 HB.out⟩⟩
          rw [if_neg c45] at H
          have c45b0 : decide (x16_2 < (Int.tmod (wrap64 (a3)) (t106.length : Int))) = false := decide_eq_false c45
          clear c45
          by_cases c58 : x15_2 > (t110.size : Int)
          · rw [if_pos c58] at H
            have c58b0 : decide ((t110.size : Int) < x15_2) = true := decide_eq_true c58
            clear c58
            obtain rfl := Option.some.inj H
            have hnb59 := NB109_101.out
            have hnc59 := NB101_109.out
            have hnb60 := NB109_102.out
            have hnc60 := NB102_109.out
            obtain ⟨hcz61_0, hcz61_1, hcz61_2, hfz61_0, hfz61_1, hfz61_2⟩ := blk3 BK109.out
            go_wp2
            go_ret
            exact ⟨qqH, qS3 GE101 GE102 GE109 HB.out⟩
          rw [if_neg c58] at H
          have c58b0 : decide ((t110.size : Int) < x15_2) = false := decide_eq_false c58
          clear c58
          replace H := Option.bind_eq_some_iff.mp H
          obtain ⟨t118, A620, H⟩ := H
          try dsimp -simprocs only at H
          have A62 := Aside0.mk A620
          clear A620
          by_cases c63 : x13_22.size + t118.size ≤ 9223372036854775807
          rotate_left
          · rw [if_neg c63] at H
            exact absurd H (by simp)
          rw [if_pos c63] at H
          have c63b0 := eq_true c63
          have c63b1 : decide (x13_22.size + t118.size ≤ 9223372036854775807) = true := decide_eq_true c63
          try have c63b2 : (9223372036854775807 < x13_22.size + t118.size) = False := eq_false (Nat.not_lt.2 c63)
          by_cases c64 : (x13_22 ++ t118).size + (a2.extract 0 ((ji41) : Int).toNat).size ≤ 9223372036854775807
          rotate_left
          · rw [if_neg c64] at H
            exact absurd H (by simp)
          rw [if_pos c64] at H
          have c64b0 := eq_true c64
          have c64b1 : decide ((x13_22 ++ t118).size + (a2.extract 0 ((ji41) : Int).toNat).size ≤ 9223372036854775807) = true := decide_eq_true c64
          try have c64b2 : (9223372036854775807 < (x13_22 ++ t118).size + (a2.extract 0 ((ji41) : Int).toNat).size) = False := eq_false (Nat.not_lt.2 c64)
          have c64b3 : (9223372036854775807 < (x13_22.size + t118.size) + min ((ji41) : Int).toNat a2.size) = False := eq_false (by have e_ := c64; simp only [ByteArray.size_append, ByteArray.size_extract, Nat.sub_zero] at e_; omega)
          by_cases c65 : 0 ≤ x15_2
          rotate_left
          · rw [if_neg c65] at H
            exact absurd H (by simp)
          rw [if_pos c65] at H
          have c65b0 := eq_true c65
          have c65b1 : decide (0 ≤ x15_2) = true := decide_eq_true c65
          clear c65
          by_cases c66 : x15_2 ≤ (t110.size : Int)
          rotate_left
          · rw [if_neg c66] at H
            exact absurd H (by simp)
          rw [if_pos c66] at H
          have c66b0 := eq_true c66
          have c66b1 : decide (x15_2 ≤ (t110.size : Int)) = true := decide_eq_true c66
          clear c66
          by_cases c67 : (t110.extract 0 (x15_2 : Int).toNat).size + ((x13_22 ++ t118) ++ (a2.extract 0 ((ji41) : Int).toNat)).size ≤ 9223372036854775807
          rotate_left
          · rw [if_neg c67] at H
            exact absurd H (by simp)
          rw [if_pos c67] at H
          have c67b0 := eq_true c67
          have c67b1 : decide ((t110.extract 0 (x15_2 : Int).toNat).size + ((x13_22 ++ t118) ++ (a2.extract 0 ((ji41) : Int).toNat)).size ≤ 9223372036854775807) = true := decide_eq_true c67
          try have c67b2 : (9223372036854775807 < (t110.extract 0 (x15_2 : Int).toNat).size + ((x13_22 ++ t118) ++ (a2.extract 0 ((ji41) : Int).toNat)).size) = False := eq_false (Nat.not_lt.2 c67)
          have c67b3 : (9223372036854775807 < (x15_2 : Int).toNat + ((x13_22.size + t118.size) + min ((ji41) : Int).toNat a2.size)) = False := eq_false (by have e_ := c67; simp only [ByteArray.size_append, ByteArray.size_extract, Nat.sub_zero] at e_; have f_ := of_eq_true c65b0; have g_ := of_eq_true c66b0; omega)
          have c68b0 := eq_true (of_decide_eq_true qq5 : 0 ≤ x15_2)
          have c69b0 := eq_true (of_decide_eq_true qq5 : x15_2 ≤ (t110.size : Int))
          by_cases c70 : ((t110.extract 0 (x15_2 : Int).toNat) ++ ((x13_22 ++ t118) ++ (a2.extract 0 ((ji41) : Int).toNat))).size + (t110.extract (x15_2 : Int).toNat t110.size).size ≤ 9223372036854775807
          rotate_left
          · rw [if_neg c70] at H
            exact absurd H (by simp)
          rw [if_pos c70] at H
          have c70b0 := eq_true c70
          have c70b1 : decide (((t110.extract 0 (x15_2 : Int).toNat) ++ ((x13_22 ++ t118) ++ (a2.extract 0 ((ji41) : Int).toNat))).size + (t110.extract (x15_2 : Int).toNat t110.size).size ≤ 9223372036854775807) = true := decide_eq_true c70
          try have c70b2 : (9223372036854775807 < ((t110.extract 0 (x15_2 : Int).toNat) ++ ((x13_22 ++ t118) ++ (a2.extract 0 ((ji41) : Int).toNat))).size + (t110.extract (x15_2 : Int).toNat t110.size).size) = False := eq_false (Nat.not_lt.2 c70)
          have c70b3 : (9223372036854775807 < ((x15_2 : Int).toNat + ((x13_22.size + t118.size) + min ((ji41) : Int).toNat a2.size)) + (t110.size - (x15_2 : Int).toNat)) = False := eq_false (by have e_ := c70; simp only [ByteArray.size_append, ByteArray.size_extract, Nat.sub_zero] at e_; have f_ := of_eq_true c65b0; have g_ := of_eq_true c66b0; omega)
          replace H := Option.bind_eq_some_iff.mp H
          obtain ⟨⟨t119, t120, t121, t124, t125⟩, A710, H⟩ := H
          try dsimp -simprocs only at H
          have A71 := Aside0.mk A710
          clear A710
          by_cases c72 : t110.size + ((x13_22 ++ t118) ++ (a2.extract 0 ((ji41) : Int).toNat)).size ≤ 9223372036854775807
          rotate_left
          · rw [if_neg c72] at H
            exact absurd H (by simp)
          rw [if_pos c72] at H
          have c72b0 := eq_true c72
          have c72b1 : decide (t110.size + ((x13_22 ++ t118) ++ (a2.extract 0 ((ji41) : Int).toNat)).size ≤ 9223372036854775807) = true := decide_eq_true c72
          try have c72b2 : (9223372036854775807 < t110.size + ((x13_22 ++ t118) ++ (a2.extract 0 ((ji41) : Int).toNat)).size) = False := eq_false (Nat.not_lt.2 c72)
          have c72b3 : (9223372036854775807 < t110.size + ((x13_22.size + t118.size) + min ((ji41) : Int).toNat a2.size)) = False := eq_false (by have e_ := c72; simp only [ByteArray.size_append, ByteArray.size_extract, Nat.sub_zero] at e_; omega)
          replace H := Option.bind_eq_some_iff.mp H
          obtain ⟨⟨t127, t128, t129, t132, t133⟩, A730, H⟩ := H
          try dsimp -simprocs only at H
          have A73 := Aside0.mk A730
          clear A730
          by_cases c74 : true = true
          rotate_left
          · exact absurd rfl c74
          clear c74
          have H1 : (if t125 = 0 then (if t124 = 0 then ((smf_Same.f k2 t104 t105 t106 t119 t120 t121).bind fun t135 => (if t135 = true then (if t133 = 160 then (if t132 = (t110.size : Int) then (some ((t129.length : Int) == 0)) else (none)) else (none)) else (none))) else (none)) else (none)) = some r := by first | (rw [if_pos rfl] at H; exact H) | (rw [if_pos trivial] at H; exact H)
          clear H
          have H := H1
          clear H1
          by_cases c75 : t125 = 0
          rotate_left
          · rw [if_neg c75] at H
            exact absurd H (by simp)
          rw [if_pos c75] at H
          have c75b0 : (t125 == 0) = true := beq_iff_eq.mpr c75
          have c75b1 : (t125 != 0) = false := bne_eq_false_iff_eq.mpr c75
          clear c75
          by_cases c76 : t124 = 0
          rotate_left
          · rw [if_neg c76] at H
            exact absurd H (by simp)
          rw [if_pos c76] at H
          have c76b0 : (t124 == 0) = true := beq_iff_eq.mpr c76
          have c76b1 : (t124 != 0) = false := bne_eq_false_iff_eq.mpr c76
          clear c76
          replace H := Option.bind_eq_some_iff.mp H
          obtain ⟨t135, A770, H⟩ := H
          try dsimp -simprocs only at H
          have A77 := Aside0.mk A770
          clear A770
          by_cases c78 : t135 = true
          rotate_left
          · replace c78 := Bool.eq_false_iff.mpr c78
            subst c78
            have H1 : (none) = some r := by rw [if_neg (show ¬ (false = true) by decide)] at H; exact H
            clear H
            have H := H1
            clear H1
            exact absurd H (by simp)
          subst c78
          have H1 : (if t133 = 160 then (if t132 = (t110.size : Int) then (some ((t129.length : Int) == 0)) else (none)) else (none)) = some r := by rw [if_pos rfl] at H; exact H
          clear H
          have H := H1
          clear H1
          by_cases c79 : t133 = 160
          rotate_left
          · rw [if_neg c79] at H
            exact absurd H (by simp)
          rw [if_pos c79] at H
          have c79b0 : (t133 == 160) = true := beq_iff_eq.mpr c79
          have c79b1 : (t133 != 160) = false := bne_eq_false_iff_eq.mpr c79
          clear c79
          by_cases c80 : t132 = (t110.size : Int)
          rotate_left
          · rw [if_neg c80] at H
            exact absurd H (by simp)
          rw [if_pos c80] at H
          have c80b0 : (t132 == (t110.size : Int)) = true := beq_iff_eq.mpr c80
          have c80b1 : (t132 != (t110.size : Int)) = false := bne_eq_false_iff_eq.mpr c80
          clear c80
          obtain rfl := Option.some.inj H
          have hnb81 := NB109_101.out
          have hnc81 := NB101_109.out
          have hnb82 := NB109_102.out
          have hnc82 := NB102_109.out
          obtain ⟨hcz83_0, hcz83_1, hcz83_2, hfz83_0, hfz83_1, hfz83_2⟩ := blk3 BK109.out
          try go_wp2_with (first | ((with_reducible refine gate_callee (f := 23) rfl ?_); refine goesL_ (some 93) rfl rfl Try.func23 (by kernel_rfl) rfl #[.int .i64 ((a2.extract 0 ((ji41) : Int).toNat).size : Int)] rfl (by (try simp only [List.map_toArray, List.map_cons, List.map_nil]); first | done | (simp only [ByteArray.size_extract, Nat.sub_zero]; rfl) | (simp only [hji41]; rfl) | rfl | (simp only [List.length_drop, List.length_take]; rfl)) ?_; (with_reducible refine (partitalaw16_big.calls ((a2.extract 0 ((ji41) : Int).toNat).size : Int) t118 _ A62.out).mono ?_); rintro e w84 ⟨rfl, hb⟩; refine ⟨_, rfl, ?_⟩; replace HO_110002 := Aside0.mk (Kd.N_below (qN HO_110002.out) hb); replace BK101 := Aside0.mk (blk_below (bq BK101.out) hb); replace BK102 := Aside0.mk (blk_below (bq BK102.out) hb); replace BK109 := Aside0.mk (blk_below (bq BK109.out) hb); replace HB := Aside0.mk (below_step (qS3 GE101 GE102 GE109 HB.out) hb); (try clear hb); (try clear hb2); (try clear hk); (try clear hi)))
          replace HO_110002 := Aside0.mk (Kd.N_drew HO_110002.out)
          replace BK101 := Aside0.mk (blk_drew BK101.out)
          replace BK102 := Aside0.mk (blk_drew BK102.out)
          replace BK109 := Aside0.mk (blk_drew BK109.out)
          replace HB := Aside0.mk (below_drew1 HB.out)
          refine start_ (n := 18) (S := fun w' => True) (ds := []) #[false, false, false, false, false, false, false, false, false, false, false, false, false, false, false, false, false, false] (by kernel_rfl) rfl rfl trivial (fun hHeld => ?_); refine with_tabW partitalaw16_SmfChunks.tab23 partitalaw16_SmfChunks.bits23 (fun HT_ HW_ => ?_)
          generalize w84.drew = w85 at HO_110002 BK101 BK102 BK109 HB hHeld ⊢
          refine pure_ (i := 0) (N := some 98) (v := ?_) (a' := ?_) #[true, false, false, false, false, false, false, false, false, false, false, false, false, false, false, false, false, false] rfl rfl (any_of HT_.out (by kernel_rfl)) (fun _ _ _ h => h) (Or.inl ⟨by rfl, ?_⟩) ?_ ?_
          rotate_left
          · intro w'
            go_simp
            with_reducible rfl
          rotate_left
          · simp only [Act.put, List.setIfInBounds_toArray, List.set_cons_zero, List.set_cons_succ, i64_w, i32_w]
            rfl
          refine pure_ (i := 1) (N := some 99) (v := ?_) (a' := ?_) #[true, true, false, false, false, false, false, false, false, false, false, false, false, false, false, false, false, false] rfl rfl (any_of HT_.out (by kernel_rfl)) (fun _ _ _ h => h) (Or.inl ⟨by rfl, ?_⟩) ?_ ?_
          rotate_left
          · intro w'
            go_simp
            with_reducible rfl
          rotate_left
          · simp only [Act.put, List.setIfInBounds_toArray, List.set_cons_zero, List.set_cons_succ, i64_w, i32_w]
            rfl
          refine pure_ (i := 2) (N := some 100) (v := ?_) (a' := ?_) #[true, true, true, false, false, false, false, false, false, false, false, false, false, false, false, false, false, false] rfl rfl (any_of HT_.out (by kernel_rfl)) (fun _ _ _ h => h) (Or.inl ⟨by rfl, ?_⟩) ?_ ?_
          rotate_left
          · intro w'
            go_simp
            with_reducible rfl
          rotate_left
          · simp only [Act.put, List.setIfInBounds_toArray, List.set_cons_zero, List.set_cons_succ, i64_w, i32_w]
            rfl
          refine pure_ (i := 3) (N := some 101) (v := ?_) (a' := ?_) #[true, true, true, true, false, false, false, false, false, false, false, false, false, false, false, false, false, false] rfl rfl (any_of HT_.out (by kernel_rfl)) (fun _ _ _ h => h) (Or.inl ⟨by rfl, ?_⟩) ?_ ?_
          rotate_left
          · intro w'
            go_simp
            with_reducible rfl
          rotate_left
          · simp only [Act.put, List.setIfInBounds_toArray, List.set_cons_zero, List.set_cons_succ, i64_w, i32_w]
            rfl
          refine pure_ (i := 4) (N := some 102) (v := ?_) (a' := ?_) #[true, true, true, true, true, false, false, false, false, false, false, false, false, false, false, false, false, false] rfl rfl (any_of HT_.out (by kernel_rfl)) (fun _ _ _ h => h) (Or.inl ⟨by rfl, ?_⟩) ?_ ?_
          rotate_left
          · intro w'
            go_simp
            with_reducible rfl
          rotate_left
          · simp only [Act.put, List.setIfInBounds_toArray, List.set_cons_zero, List.set_cons_succ, i64_w, i32_w]
            rfl
          refine pure_ (i := 5) (N := some 103) (v := ?_) (a' := ?_) #[true, true, true, true, true, true, false, false, false, false, false, false, false, false, false, false, false, false] rfl rfl (any_of HT_.out (by kernel_rfl)) (fun _ _ _ h => h) (Or.inl ⟨by rfl, ?_⟩) ?_ ?_
          rotate_left
          · intro w'
            go_simp
            with_reducible rfl
          rotate_left
          · simp only [Act.put, List.setIfInBounds_toArray, List.set_cons_zero, List.set_cons_succ, i64_w, i32_w]
            rfl
          refine pure_ (i := 6) (N := some 104) (v := ?_) (a' := ?_) #[true, true, true, true, true, true, true, false, false, false, false, false, false, false, false, false, false, false] rfl rfl (any_of HT_.out (by kernel_rfl)) (fun _ _ _ h => h) (Or.inl ⟨by rfl, ?_⟩) ?_ ?_
          rotate_left
          · intro w'
            go_simp
            with_reducible rfl
          rotate_left
          · simp only [Act.put, List.setIfInBounds_toArray, List.set_cons_zero, List.set_cons_succ, i64_w, i32_w]
            rfl
          refine pure_ (i := 7) (N := some 105) (v := ?_) (a' := ?_) #[true, true, true, true, true, true, true, true, false, false, false, false, false, false, false, false, false, false] rfl rfl (any_of HT_.out (by kernel_rfl)) (fun _ _ _ h => h) (Or.inl ⟨by rfl, ?_⟩) ?_ ?_
          rotate_left
          · intro w'
            go_simp
            with_reducible rfl
          rotate_left
          · simp only [Act.put, List.setIfInBounds_toArray, List.set_cons_zero, List.set_cons_succ, i64_w, i32_w]
            rfl
          refine pure_ (i := 8) (N := some 106) (v := ?_) (a' := ?_) #[true, true, true, true, true, true, true, true, true, false, false, false, false, false, false, false, false, false] rfl rfl (any_of HT_.out (by kernel_rfl)) (fun _ _ _ h => h) (Or.inl ⟨by rfl, ?_⟩) ?_ ?_
          rotate_left
          · intro w'
            go_simp
            with_reducible rfl
          rotate_left
          · simp only [Act.put, List.setIfInBounds_toArray, List.set_cons_zero, List.set_cons_succ, i64_w, i32_w]
            rfl
          refine join_ (σ := Value × Nat) 3 #[true, true, true, true, true, true, true, true, true, true, true, true, true, true, true, false, false, false] (fun s_ => [(107, .tuple #[.agg #[.int .i64 t119, .int .i64 t120, s_.1], .int .i64 t124, .int .i64 t125]), (20, .pointer (some ⟨s_.2, 0, none⟩)), (97, .tuple #[.agg #[.int .i64 t119, .int .i64 t120, s_.1], .int .i64 t124, .int .i64 t125]), (108, .agg #[.int .i64 t119, .int .i64 t120, s_.1]), (109, .int .i64 t124), (110, .int .i64 t125)]) (fun s_ w' => (Kd.N (Kd.slice 28 k28) 30 w' w.heap.size (fun k_ => some k_ ≠ (.slice Ao34 t106.length co34 : Value).ownBlock ∧ k_ ≠ gb101 ∧ k_ ≠ gb102 ∧ k_ ≠ gb109 ∧ k_ ≠ s_.2) s_.1 t121) ∧ (Kd.N (Kd.slice 28 k28) 30 w' w.heap.size (fun k_ => some k_ ≠ (s_.1 : Value).ownBlock ∧ k_ ≠ gb101 ∧ k_ ≠ gb102 ∧ k_ ≠ gb109 ∧ k_ ≠ s_.2) (.slice Ao34 t106.length co34) t106) ∧ (w'.heap[gb101]? = some (.cells #[.int .i64 a0_0, .int .i64 a0_1, .slice A0_2 l0_2.length c0_2] 24 (0, 0))) ∧ (w'.heap[gb102]? = some (.cells #[.int .u8 a1_0, .int .u8 a1_1, .int .u8 a1_2, .int .u8 a1_3] 43 (0, 0))) ∧ (w'.heap[gb109]? = some (.cells #[.int .i64 t104, .int .i64 t105, .slice Ao34 t106.length co34] 24 (0, 0))) ∧ (w'.heap[s_.2]? = some (.cells #[.int .i64 0, .int .i64 0, .slice none 0 0] 24 (0, 0))) ∧ (w.heap.size ≤ s_.2) ∧ (w.heap.size ≤ s_.2) ∧ (gb101 ≠ s_.2) ∧ (s_.2 ≠ gb101) ∧ (gb102 ≠ s_.2) ∧ (s_.2 ≠ gb102) ∧ (gb109 ≠ s_.2) ∧ (s_.2 ≠ gb109) ∧ (Below w.heap.size w w')) ?_ ?_
          rotate_left
          · intro hCont
            refine two_ (i := 9) (j := 14) (Ni := some 107) (Nj := some 20) #[true, true, true, true, true, true, true, true, true, true, false, false, false, false, false, false, false, false] #[true, true, true, true, true, true, true, true, true, false, false, false, false, false, true, false, false, false] rfl rfl rfl rfl (two_of HT_.out (by kernel_rfl)) (by decide) (by decide) (fun K hK => ?_) (fun K hK => ?_)
            · skip
              refine goes_ Try.func21 (by kernel_rfl) rfl #[.string (((t110.extract 0 (x15_2 : Int).toNat) ++ ((x13_22 ++ t118) ++ (a2.extract 0 ((ji41) : Int).toNat))) ++ (t110.extract (x15_2 : Int).toNat t110.size))] (by rfl) rfl rfl qqI ?_
              with_reducible refine (smf_Parse.calls k2 (((t110.extract 0 (x15_2 : Int).toNat) ++ ((x13_22 ++ t118) ++ (a2.extract 0 ((ji41) : Int).toNat))) ++ (t110.extract (x15_2 : Int).toNat t110.size)) t119 t120 t121 t124 t125 _ A71.out).mono ?_
              rintro e w86 ⟨v122, rfl, ho0, hb⟩
              refine ⟨_, rfl, ?_⟩
              have HO123 := Aside0.mk (Kd.N_lower (Kd.N_mono (ok' := fun k_ => some k_ ≠ (.slice Ao34 t106.length co34 : Value).ownBlock ∧ k_ ≠ gb101 ∧ k_ ≠ gb102 ∧ k_ ≠ gb109) (Kd.S_N (Kd.S_bound ho0)) (fun k_ hk_ => ⟨(Kd.fresh' (Kd.N_lt (qN HO_110002.out)) k_ hk_.2.1), (Kd.freshB (bq BK101.out) k_ hk_.2.1), (Kd.freshB (bq BK102.out) k_ hk_.2.1), (Kd.freshB (bq BK109.out) k_ hk_.2.1)⟩)) (below_size (qS3 GE101 GE102 GE109 HB.out)))
              replace HO_110002 := Aside0.mk (Kd.N_elder' (qN HO_110002.out) qqn hb)
              replace BK101 := Aside0.mk (blk_below (bq BK101.out) hb)
              replace BK102 := Aside0.mk (blk_below (bq BK102.out) hb)
              replace BK109 := Aside0.mk (blk_below (bq BK109.out) hb)
              replace HB := Aside0.mk (below_step (qS3 GE101 GE102 GE109 HB.out) hb)
              (try clear hb)
              (try clear hb2)
              (try clear hk)
              (try clear hi)
              (try clear ho0)
              refine hK.out _ _ trivial (fun hHeld => ?_)
              clear hK K
              refine norm_ (a' := ?_) ?_ ?_
              rotate_left
              · show Act.put _ (some 107) _ = _
                simp only [Act.put, List.setIfInBounds_toArray, List.set_cons_zero, List.set_cons_succ, i64_w, i32_w]
                rfl
              refine pure_ (i := 10) (N := some 97) (v := ?_) (a' := ?_) #[true, true, true, true, true, true, true, true, true, true, true, false, false, false, false, false, false, false] rfl rfl (any_of HT_.out (by kernel_rfl)) (fun _ _ _ h => h) (Or.inl ⟨by rfl, ?_⟩) ?_ ?_
              rotate_left
              · intro w'
                go_simp
                with_reducible rfl
              rotate_left
              · simp only [Act.put, List.setIfInBounds_toArray, List.set_cons_zero, List.set_cons_succ, i64_w, i32_w]
                rfl
              refine pure_ (i := 11) (N := some 108) (v := ?_) (a' := ?_) #[true, true, true, true, true, true, true, true, true, true, true, true, false, false, false, false, false, false] rfl rfl (any_of HT_.out (by kernel_rfl)) (fun _ _ _ h => h) (Or.inl ⟨by rfl, ?_⟩) ?_ ?_
              rotate_left
              · intro w'
                go_simp
                with_reducible rfl
              rotate_left
              · simp only [Act.put, List.setIfInBounds_toArray, List.set_cons_zero, List.set_cons_succ, i64_w, i32_w]
                rfl
              refine pure_ (i := 12) (N := some 109) (v := ?_) (a' := ?_) #[true, true, true, true, true, true, true, true, true, true, true, true, true, false, false, false, false, false] rfl rfl (any_of HT_.out (by kernel_rfl)) (fun _ _ _ h => h) (Or.inl ⟨by rfl, ?_⟩) ?_ ?_
              rotate_left
              · intro w'
                go_simp
                with_reducible rfl
              rotate_left
              · simp only [Act.put, List.setIfInBounds_toArray, List.set_cons_zero, List.set_cons_succ, i64_w, i32_w]
                rfl
              refine pure_ (i := 13) (N := some 110) (v := ?_) (a' := ?_) #[true, true, true, true, true, true, true, true, true, true, true, true, true, true, false, false, false, false] rfl rfl (any_of HT_.out (by kernel_rfl)) (fun _ _ _ h => h) (Or.inl ⟨by rfl, ?_⟩) ?_ ?_
              rotate_left
              · intro w'
                go_simp
                with_reducible rfl
              rotate_left
              · simp only [Act.put, List.setIfInBounds_toArray, List.set_cons_zero, List.set_cons_succ, i64_w, i32_w]
                rfl
              refine one_ (i := 14) (N := some 20) #[true, true, true, true, true, true, true, true, true, true, true, true, true, true, true, false, false, false] rfl rfl (one_of HT_.out (by kernel_rfl)) (by decide) (fun K hK => ?_)
              refine box_step ?hg (N := 20) ?hd (cs := #[.int .i64 0, .int .i64 0, .slice none 0 0]) (t := 24) ?hr ?_; (case hd => rfl); (case hg => rfl); (case hr => exact qq9)
              intro gb126 hg w87 hbox hb
              replace HO_110002 := Aside0.mk (Kd.N_below (Kd.N_elderB (qN HO_110002.out) gb126 (Nat.le_of_eq hg.symm)) hb)
              replace HO123 := Aside0.mk (Kd.N_below (Kd.N_elderB (qN HO123.out) gb126 (Nat.le_of_eq hg.symm)) hb)
              have BK126 := Aside0.mk (hbox)
              have GW126 := Aside0.mk ((qqP : w.heap.size ≤ gb126))
              have GE126 := Aside0.mk ((qqP : w.heap.size ≤ gb126))
              replace HB := Aside0.mk (below_step (qS3 GE101 GE102 GE109 HB.out) hb)
              have NB101_126 := Aside0.mk ((qqc : gb101 ≠ gb126))
              have NB126_101 := Aside0.mk ((qqd : gb126 ≠ gb101))
              replace BK101 := Aside0.mk (blk_below (bq BK101.out) hb)
              have NB102_126 := Aside0.mk ((qqg : gb102 ≠ gb126))
              have NB126_102 := Aside0.mk ((qqh : gb126 ≠ gb102))
              replace BK102 := Aside0.mk (blk_below (bq BK102.out) hb)
              have NB109_126 := Aside0.mk ((by rw [hg]; exact Nat.ne_of_lt (blk_lt (bq BK109.out)) : gb109 ≠ gb126))
              have NB126_109 := Aside0.mk ((by rw [hg]; exact Nat.ne_of_gt (blk_lt (bq BK109.out)) : gb126 ≠ gb109))
              replace BK109 := Aside0.mk (blk_below (bq BK109.out) hb)
              clear hb hbox hg
              refine hK.out _ _ trivial (fun hHeld => ?_)
              clear hK K
              refine norm_ (a' := ?_) ?_ ?_
              rotate_left
              · show Act.put _ (some 20) _ = _
                simp only [Act.put, List.setIfInBounds_toArray, List.set_cons_zero, List.set_cons_succ, i64_w, i32_w]
                rfl
              exact norm_ qqG (hCont (v122, gb126) _ ⟨(by (with_reducible repeat (first | apply Kd.N_alloc | apply Kd.N_drewN | apply Kd.N_drew)); exact Kd.N_mono HO123.out (fun _ hk => ⟨hk.1.1, ⟨hk.1.2.1, ⟨hk.1.2.2.1, ⟨hk.1.2.2.2, hk.2⟩⟩⟩⟩)), (by (with_reducible repeat (first | apply Kd.N_alloc | apply Kd.N_drewN | apply Kd.N_drew)); exact Kd.N_mono HO_110002.out (fun _ hk => ⟨hk.1.2, ⟨hk.1.1.1, ⟨hk.1.1.2.1, ⟨hk.1.1.2.2, hk.2⟩⟩⟩⟩)), (bq BK101.out), (bq BK102.out), (bq BK109.out), (bq BK126.out), GW126.out, GE126.out, NB101_126.out, NB126_101.out, NB102_126.out, NB126_102.out, NB109_126.out, NB126_109.out, (qS4 GE101 GE102 GE109 GE126 HB.out)⟩)
            skip
            refine box_step ?hg (N := 20) ?hd (cs := #[.int .i64 0, .int .i64 0, .slice none 0 0]) (t := 24) ?hr ?_; (case hd => rfl); (case hg => rfl); (case hr => exact qq9)
            intro gb126 hg w86 hbox hb
            replace HO_110002 := Aside0.mk (Kd.N_below (Kd.N_elderB (qN HO_110002.out) gb126 (Nat.le_of_eq hg.symm)) hb)
            have BK126 := Aside0.mk (hbox)
            have GW126 := Aside0.mk ((qqP : w.heap.size ≤ gb126))
            have GE126 := Aside0.mk ((qqP : w.heap.size ≤ gb126))
            replace HB := Aside0.mk (below_step (qS3 GE101 GE102 GE109 HB.out) hb)
            have NB101_126 := Aside0.mk ((qqc : gb101 ≠ gb126))
            have NB126_101 := Aside0.mk ((qqd : gb126 ≠ gb101))
            replace BK101 := Aside0.mk (blk_below (bq BK101.out) hb)
            have NB102_126 := Aside0.mk ((qqg : gb102 ≠ gb126))
            have NB126_102 := Aside0.mk ((qqh : gb126 ≠ gb102))
            replace BK102 := Aside0.mk (blk_below (bq BK102.out) hb)
            have NB109_126 := Aside0.mk ((by rw [hg]; exact Nat.ne_of_lt (blk_lt (bq BK109.out)) : gb109 ≠ gb126))
            have NB126_109 := Aside0.mk ((by rw [hg]; exact Nat.ne_of_gt (blk_lt (bq BK109.out)) : gb126 ≠ gb109))
            replace BK109 := Aside0.mk (blk_below (bq BK109.out) hb)
            clear hb hbox hg
            refine hK.out _ _ trivial (fun hHeld => ?_)
            clear hK K
            refine norm_ (a' := ?_) ?_ ?_
            rotate_left
            · show Act.put _ (some 20) _ = _
              simp only [Act.put, List.setIfInBounds_toArray, List.set_cons_zero, List.set_cons_succ, i64_w, i32_w]
              rfl
            refine one_ (i := 9) (N := some 107) #[true, true, true, true, true, true, true, true, true, true, false, false, false, false, true, false, false, false] rfl rfl (one_of HT_.out (by kernel_rfl)) (by decide) (fun K hK => ?_)
            refine goes_ Try.func21 (by kernel_rfl) rfl #[.string (((t110.extract 0 (x15_2 : Int).toNat) ++ ((x13_22 ++ t118) ++ (a2.extract 0 ((ji41) : Int).toNat))) ++ (t110.extract (x15_2 : Int).toNat t110.size))] (by rfl) rfl rfl qqI ?_
            with_reducible refine (smf_Parse.calls k2 (((t110.extract 0 (x15_2 : Int).toNat) ++ ((x13_22 ++ t118) ++ (a2.extract 0 ((ji41) : Int).toNat))) ++ (t110.extract (x15_2 : Int).toNat t110.size)) t119 t120 t121 t124 t125 _ A71.out).mono ?_
            rintro e w87 ⟨v122, rfl, ho0, hb⟩
            refine ⟨_, rfl, ?_⟩
            have HO123 := Aside0.mk (Kd.N_lower (Kd.N_mono (ok' := fun k_ => some k_ ≠ (.slice Ao34 t106.length co34 : Value).ownBlock ∧ k_ ≠ gb101 ∧ k_ ≠ gb102 ∧ k_ ≠ gb109 ∧ k_ ≠ gb126) (Kd.S_N (Kd.S_bound ho0)) (fun k_ hk_ => ⟨(Kd.fresh' (Kd.N_lt (qN HO_110002.out)) k_ hk_.2.1), (Kd.freshB (bq BK101.out) k_ hk_.2.1), (Kd.freshB (bq BK102.out) k_ hk_.2.1), (Kd.freshB (bq BK109.out) k_ hk_.2.1), (Kd.freshB (bq BK126.out) k_ hk_.2.1)⟩)) (below_size (qS4 GE101 GE102 GE109 GE126 HB.out)))
            replace HO_110002 := Aside0.mk (Kd.N_elder' (qN HO_110002.out) qqn hb)
            replace BK101 := Aside0.mk (blk_below (bq BK101.out) hb)
            replace BK102 := Aside0.mk (blk_below (bq BK102.out) hb)
            replace BK109 := Aside0.mk (blk_below (bq BK109.out) hb)
            replace BK126 := Aside0.mk (blk_below (bq BK126.out) hb)
            replace HB := Aside0.mk (below_step (qS4 GE101 GE102 GE109 GE126 HB.out) hb)
            (try clear hb)
            (try clear hb2)
            (try clear hk)
            (try clear hi)
            (try clear ho0)
            refine hK.out _ _ trivial (fun hHeld => ?_)
            clear hK K
            refine norm_ (a' := ?_) ?_ ?_
            rotate_left
            · show Act.put _ (some 107) _ = _
              simp only [Act.put, List.setIfInBounds_toArray, List.set_cons_zero, List.set_cons_succ, i64_w, i32_w]
              rfl
            refine pure_ (i := 10) (N := some 97) (v := ?_) (a' := ?_) #[true, true, true, true, true, true, true, true, true, true, true, false, false, false, true, false, false, false] rfl rfl (any_of HT_.out (by kernel_rfl)) (fun _ _ _ h => h) (Or.inl ⟨by rfl, ?_⟩) ?_ ?_
            rotate_left
            · intro w'
              go_simp
              with_reducible rfl
            rotate_left
            · simp only [Act.put, List.setIfInBounds_toArray, List.set_cons_zero, List.set_cons_succ, i64_w, i32_w]
              rfl
            refine pure_ (i := 11) (N := some 108) (v := ?_) (a' := ?_) #[true, true, true, true, true, true, true, true, true, true, true, true, false, false, true, false, false, false] rfl rfl (any_of HT_.out (by kernel_rfl)) (fun _ _ _ h => h) (Or.inl ⟨by rfl, ?_⟩) ?_ ?_
            rotate_left
            · intro w'
              go_simp
              with_reducible rfl
            rotate_left
            · simp only [Act.put, List.setIfInBounds_toArray, List.set_cons_zero, List.set_cons_succ, i64_w, i32_w]
              rfl
            refine pure_ (i := 12) (N := some 109) (v := ?_) (a' := ?_) #[true, true, true, true, true, true, true, true, true, true, true, true, true, false, true, false, false, false] rfl rfl (any_of HT_.out (by kernel_rfl)) (fun _ _ _ h => h) (Or.inl ⟨by rfl, ?_⟩) ?_ ?_
            rotate_left
            · intro w'
              go_simp
              with_reducible rfl
            rotate_left
            · simp only [Act.put, List.setIfInBounds_toArray, List.set_cons_zero, List.set_cons_succ, i64_w, i32_w]
              rfl
            refine pure_ (i := 13) (N := some 110) (v := ?_) (a' := ?_) #[true, true, true, true, true, true, true, true, true, true, true, true, true, true, true, false, false, false] rfl rfl (any_of HT_.out (by kernel_rfl)) (fun _ _ _ h => h) (Or.inl ⟨by rfl, ?_⟩) ?_ ?_
            rotate_left
            · intro w'
              go_simp
              with_reducible rfl
            rotate_left
            · simp only [Act.put, List.setIfInBounds_toArray, List.set_cons_zero, List.set_cons_succ, i64_w, i32_w]
              rfl
            exact norm_ qqG (hCont (v122, gb126) _ ⟨(qN HO123.out), (by (with_reducible repeat (first | apply Kd.N_alloc | apply Kd.N_drewN | apply Kd.N_drew)); exact Kd.N_mono HO_110002.out (fun _ hk => ⟨hk.2, ⟨hk.1.1.1, ⟨hk.1.1.2.1, ⟨hk.1.1.2.2, hk.1.2⟩⟩⟩⟩)), (bq BK101.out), (bq BK102.out), (bq BK109.out), (bq BK126.out), GW126.out, GE126.out, NB101_126.out, NB126_101.out, NB102_126.out, NB126_102.out, NB109_126.out, NB126_109.out, (qS4 GE101 GE102 GE109 GE126 HB.out)⟩)
          rintro ⟨v122, gb126⟩ w88 ⟨h0_, h1_, h2_, h3_, h4_, h5_, h6_, h7_, h8_, h9_, h10_, h11_, h12_, h13_, h14_⟩
          have n0_ : Aside0 (Kd.N (Kd.slice 28 k28) 30 w88 w.heap.size (fun k_ => some k_ ≠ (.slice Ao34 t106.length co34 : Value).ownBlock ∧ k_ ≠ gb101 ∧ k_ ≠ gb102 ∧ k_ ≠ gb109 ∧ k_ ≠ gb126) v122 t121) := ⟨h0_⟩
          have n1_ : Aside0 (Kd.N (Kd.slice 28 k28) 30 w88 w.heap.size (fun k_ => some k_ ≠ (v122 : Value).ownBlock ∧ k_ ≠ gb101 ∧ k_ ≠ gb102 ∧ k_ ≠ gb109 ∧ k_ ≠ gb126) (.slice Ao34 t106.length co34) t106) := ⟨h1_⟩
          have n2_ : Aside0 (w88.heap[gb101]? = some (.cells #[.int .i64 a0_0, .int .i64 a0_1, .slice A0_2 l0_2.length c0_2] 24 (0, 0))) := ⟨h2_⟩
          have n3_ : Aside0 (w88.heap[gb102]? = some (.cells #[.int .u8 a1_0, .int .u8 a1_1, .int .u8 a1_2, .int .u8 a1_3] 43 (0, 0))) := ⟨h3_⟩
          have n4_ : Aside0 (w88.heap[gb109]? = some (.cells #[.int .i64 t104, .int .i64 t105, .slice Ao34 t106.length co34] 24 (0, 0))) := ⟨h4_⟩
          have n5_ : Aside0 (w88.heap[gb126]? = some (.cells #[.int .i64 0, .int .i64 0, .slice none 0 0] 24 (0, 0))) := ⟨h5_⟩
          have n6_ : Aside0 (w.heap.size ≤ gb126) := ⟨h6_⟩
          have n7_ : Aside0 (w.heap.size ≤ gb126) := ⟨h7_⟩
          have n8_ : Aside0 (gb101 ≠ gb126) := ⟨h8_⟩
          have n9_ : Aside0 (gb126 ≠ gb101) := ⟨h9_⟩
          have n10_ : Aside0 (gb102 ≠ gb126) := ⟨h10_⟩
          have n11_ : Aside0 (gb126 ≠ gb102) := ⟨h11_⟩
          have n12_ : Aside0 (gb109 ≠ gb126) := ⟨h12_⟩
          have n13_ : Aside0 (gb126 ≠ gb109) := ⟨h13_⟩
          have n14_ : Aside0 (Below w.heap.size w w88) := ⟨h14_⟩
          clear HO_110002
          clear BK101
          clear BK102
          clear BK109
          clear HB
          clear h0_ h1_ h2_ h3_ h4_ h5_ h6_ h7_ h8_ h9_ h10_ h11_ h12_ h13_ h14_
          have HO123 := n0_
          have HO_110002 := n1_
          have BK101 := n2_
          have BK102 := n3_
          have BK109 := n4_
          have BK126 := n5_
          have GW126 := n6_
          have GE126 := n7_
          have NB101_126 := n8_
          have NB126_101 := n9_
          have NB102_126 := n10_
          have NB126_102 := n11_
          have NB109_126 := n12_
          have NB126_109 := n13_
          have HB := n14_
          clear n0_ n1_ n2_ n3_ n4_ n5_ n6_ n7_ n8_ n9_ n10_ n11_ n12_ n13_ n14_
          have hHeld := trivial
          obtain ⟨Ao91, co91, eo91⟩ := Kd.N_slice HO123.out
          (first | subst eo91 | (injection eo91 with f1_ f2_ f3_; have f4_ := f1_.symm; have f5_ := f3_.symm; clear f1_ f2_ f3_; subst f4_; subst f5_))
          refine norm_ (a' := ?_) ?_ ?_
          rotate_left
          · simp only [putAll, Act.put, List.setIfInBounds_toArray, List.set_cons_zero, List.set_cons_succ]
            rfl
          refine one_ (i := 15) (N := none) #[true, true, true, true, true, true, true, true, true, true, true, true, true, true, true, true, false, false] rfl rfl (one_of HT_.out (by kernel_rfl)) (by decide) (fun K hK => ?_)
          have hs89 : w88.cell? ⟨gb126, 0, none⟩ = some (.int .i64 0) := (blk_cell BK126.out 0).trans rfl
          have hfs89 := blk_frozen BK126.out 0
          have hns89_0 := NB101_126.out
          have hns89_1 := NB102_126.out
          have hns89_2 := NB109_126.out
          have hms89_0 := NB126_101.out
          have hms89_1 := NB126_102.out
          have hms89_2 := NB126_109.out
          have hs90 : w88.cell? ⟨gb126, 1, none⟩ = some (.int .i64 0) := (blk_cell BK126.out 1).trans rfl
          have hfs90 := blk_frozen BK126.out 1
          have hns90_0 := NB101_126.out
          have hns90_1 := NB102_126.out
          have hns90_2 := NB109_126.out
          have hms90_0 := NB126_101.out
          have hms90_1 := NB126_102.out
          have hms90_2 := NB126_109.out
          have hs92 : w88.cell? ⟨gb126, 2, none⟩ = some (.slice none 0 0) := (blk_cell BK126.out 2).trans rfl
          have hfs92 := blk_frozen BK126.out 2
          have hns92_0 := NB101_126.out
          have hns92_1 := NB102_126.out
          have hns92_2 := NB109_126.out
          have hms92_0 := NB126_101.out
          have hms92_1 := NB126_102.out
          have hms92_2 := NB126_109.out
          refine skip_ (w1 := ?_) (by rfl) rfl ?_ ?_
          rotate_left
          · go_simp
            rfl
          refine hK.out _ _ trivial (fun hHeld => ?_)
          clear hK K
          refine pure_ (i := 16) (N := some 21) (v := ?_) (a' := ?_) #[true, true, true, true, true, true, true, true, true, true, true, true, true, true, true, true, true, false] rfl rfl (any_of HT_.out (by kernel_rfl)) (fun _ _ _ h => h) (Or.inl ⟨by rfl, ?_⟩) ?_ ?_
          rotate_left
          · intro w'
            go_simp
            with_reducible rfl
          rotate_left
          · simp only [Act.put, List.setIfInBounds_toArray, List.set_cons_zero, List.set_cons_succ, i64_w, i32_w]
            rfl
          refine pure_ (i := 17) (N := some 22) (v := ?_) (a' := ?_) #[true, true, true, true, true, true, true, true, true, true, true, true, true, true, true, true, true, true] rfl rfl (any_of HT_.out (by kernel_rfl)) (fun _ _ _ h => h) (Or.inl ⟨by rfl, ?_⟩) ?_ ?_
          rotate_left
          · intro w'
            go_simp
            with_reducible rfl
          rotate_left
          · simp only [Act.put, List.setIfInBounds_toArray, List.set_cons_zero, List.set_cons_succ, i64_w, i32_w]
            rfl
          refine done_ (done_of HT_.out (by kernel_rfl)) ?_
          try go_wp2_with (first | ((with_reducible refine gate_callee (f := 21) rfl ?_); refine goesL_ (some 115) rfl rfl Try.func21 (by kernel_rfl) rfl #[.string (t110 ++ ((x13_22 ++ t118) ++ (a2.extract 0 ((ji41) : Int).toNat)))] rfl qqI ?_; (with_reducible refine (smf_Parse.calls k2 (t110 ++ ((x13_22 ++ t118) ++ (a2.extract 0 ((ji41) : Int).toNat))) t127 t128 t129 t132 t133 _ A73.out).mono ?_); rintro e w93 ⟨v130, rfl, ho0, hb⟩; refine ⟨_, rfl, ?_⟩; have HO131 := Aside0.mk (Kd.N_lower (Kd.N_mono (ok' := fun k_ => some k_ ≠ (.slice Ao34 t106.length co34 : Value).ownBlock ∧ some k_ ≠ (.slice Ao91 t121.length co91 : Value).ownBlock ∧ k_ ≠ gb101 ∧ k_ ≠ gb102 ∧ k_ ≠ gb109 ∧ k_ ≠ gb126) (Kd.S_N (Kd.S_bound ho0)) (fun k_ hk_ => ⟨(Kd.fresh' (Kd.N_lt qqx) k_ hk_.2.1), (Kd.fresh' (Kd.N_lt qqz) k_ hk_.2.1), (Kd.freshB (g := gb101) (o := .cells #[.int .i64 a0_0, .int .i64 a0_1, .slice A0_2 l0_2.length c0_2] 24 (0, 0)) (by refine bq ?_; refine blk_far ?_ NB101_126.out _; refine bq ?_; refine blk_far ?_ NB101_126.out _; refine bq ?_; refine blk_far ?_ NB101_126.out _; exact bq BK101.out) k_ hk_.2.1), (Kd.freshB (g := gb102) (o := .cells #[.int .u8 a1_0, .int .u8 a1_1, .int .u8 a1_2, .int .u8 a1_3] 43 (0, 0)) (by refine bq ?_; refine blk_far ?_ NB102_126.out _; refine bq ?_; refine blk_far ?_ NB102_126.out _; refine bq ?_; refine blk_far ?_ NB102_126.out _; exact bq BK102.out) k_ hk_.2.1), (Kd.freshB (g := gb109) (o := .cells #[.int .i64 t104, .int .i64 t105, .slice Ao34 t106.length co34] 24 (0, 0)) (by refine bq ?_; refine blk_far ?_ NB109_126.out _; refine bq ?_; refine blk_far ?_ NB109_126.out _; refine bq ?_; refine blk_far ?_ NB109_126.out _; exact bq BK109.out) k_ hk_.2.1), (Kd.freshB (g := gb126) (o := .cells #[.int .i64 t119, .int .i64 t120, .slice Ao91 t121.length co91] 24 (0, 0)) (by refine bq ?_; refine blk_put (cs := #[.int .i64 t119, .int .i64 t120, .slice none 0 0]) ?_ 2 _ rfl; refine bq ?_; refine blk_put (cs := #[.int .i64 t119, .int .i64 0, .slice none 0 0]) ?_ 1 _ rfl; refine bq ?_; refine blk_put (cs := #[.int .i64 0, .int .i64 0, .slice none 0 0]) ?_ 0 _ rfl; exact bq BK126.out) k_ hk_.2.1)⟩)) (below_size (qS4 GE101 GE102 GE109 GE126 HB.out))); replace HO_110002 := Aside0.mk (Kd.N_elder' qqx qqn hb); replace HO123 := Aside0.mk (Kd.N_elder' qqz qqn hb); replace BK101 := Aside0.mk (blk_below (g := gb101) (o := .cells #[.int .i64 a0_0, .int .i64 a0_1, .slice A0_2 l0_2.length c0_2] 24 (0, 0)) (by refine bq ?_; refine blk_far ?_ NB101_126.out _; refine bq ?_; refine blk_far ?_ NB101_126.out _; refine bq ?_; refine blk_far ?_ NB101_126.out _; exact bq BK101.out) hb); replace BK102 := Aside0.mk (blk_below (g := gb102) (o := .cells #[.int .u8 a1_0, .int .u8 a1_1, .int .u8 a1_2, .int .u8 a1_3] 43 (0, 0)) (by refine bq ?_; refine blk_far ?_ NB102_126.out _; refine bq ?_; refine blk_far ?_ NB102_126.out _; refine bq ?_; refine blk_far ?_ NB102_126.out _; exact bq BK102.out) hb); replace BK109 := Aside0.mk (blk_below (g := gb109) (o := .cells #[.int .i64 t104, .int .i64 t105, .slice Ao34 t106.length co34] 24 (0, 0)) (by refine bq ?_; refine blk_far ?_ NB109_126.out _; refine bq ?_; refine blk_far ?_ NB109_126.out _; refine bq ?_; refine blk_far ?_ NB109_126.out _; exact bq BK109.out) hb); replace BK126 := Aside0.mk (blk_below (g := gb126) (o := .cells #[.int .i64 t119, .int .i64 t120, .slice Ao91 t121.length co91] 24 (0, 0)) (by refine bq ?_; refine blk_put (cs := #[.int .i64 t119, .int .i64 t120, .slice none 0 0]) ?_ 2 _ rfl; refine bq ?_; refine blk_put (cs := #[.int .i64 t119, .int .i64 0, .slice none 0 0]) ?_ 1 _ rfl; refine bq ?_; refine blk_put (cs := #[.int .i64 0, .int .i64 0, .slice none 0 0]) ?_ 0 _ rfl; exact bq BK126.out) hb); replace HB := Aside0.mk (below_step (qS4 GE101 GE102 GE109 GE126 HB.out) hb); (try clear hb); (try clear hb2); (try clear hk); (try clear hi); (try clear ho0)) | ((with_reducible refine gate_dst (N := 23) rfl ?_); (try (refine gate_guard (by rfl) ?_; dsimp only)); refine box_event ?hg (N := 23) ?hd (cs := #[.int .i64 0, .int .i64 0, .slice none 0 0]) (t := 24) ?hr ?_; (case hd => rfl); (case hg => rfl); (case hr => exact qq9); intro gb134 hg w94 hbox hb; replace HO_110002 := Aside0.mk (Kd.N_below (Kd.N_elderB (qN HO_110002.out) gb134 (Nat.le_of_eq hg.symm)) hb); replace HO123 := Aside0.mk (Kd.N_below (Kd.N_elderB (qN HO123.out) gb134 (Nat.le_of_eq hg.symm)) hb); replace HO131 := Aside0.mk (Kd.N_below (Kd.N_elderB (qN HO131.out) gb134 (Nat.le_of_eq hg.symm)) hb); have BK134 := Aside0.mk (hbox); have GW134 := Aside0.mk ((by rw [hg]; exact (below_size (qS4 GE101 GE102 GE109 GE126 HB.out)) : w.heap.size ≤ gb134)); have GE134 := Aside0.mk ((by rw [hg]; exact (below_size (qS4 GE101 GE102 GE109 GE126 HB.out)) : w.heap.size ≤ gb134)); replace HB := Aside0.mk (below_step (qS4 GE101 GE102 GE109 GE126 HB.out) hb); have NB101_134 := Aside0.mk ((qqc : gb101 ≠ gb134)); have NB134_101 := Aside0.mk ((qqd : gb134 ≠ gb101)); replace BK101 := Aside0.mk (blk_below (bq BK101.out) hb); have NB102_134 := Aside0.mk ((qqg : gb102 ≠ gb134)); have NB134_102 := Aside0.mk ((qqh : gb134 ≠ gb102)); replace BK102 := Aside0.mk (blk_below (bq BK102.out) hb); have NB109_134 := Aside0.mk ((by rw [hg]; exact Nat.ne_of_lt (blk_lt (bq BK109.out)) : gb109 ≠ gb134)); have NB134_109 := Aside0.mk ((by rw [hg]; exact Nat.ne_of_gt (blk_lt (bq BK109.out)) : gb134 ≠ gb109)); replace BK109 := Aside0.mk (blk_below (bq BK109.out) hb); have NB126_134 := Aside0.mk ((by rw [hg]; exact Nat.ne_of_lt (blk_lt (bq BK126.out)) : gb126 ≠ gb134)); have NB134_126 := Aside0.mk ((by rw [hg]; exact Nat.ne_of_gt (blk_lt (bq BK126.out)) : gb134 ≠ gb126)); replace BK126 := Aside0.mk (blk_below (bq BK126.out) hb); clear hb hbox hg; have hnb95 := NB134_101.out; have hnc95 := NB101_134.out; have hnb96 := NB134_102.out; have hnc96 := NB102_134.out; have hnb97 := NB134_109.out; have hnc97 := NB109_134.out; have hnb98 := NB134_126.out; have hnc98 := NB126_134.out; obtain ⟨hcz99_0, hcz99_1, hcz99_2, hfz99_0, hfz99_1, hfz99_2⟩ := blk3 BK134.out; obtain ⟨Ao100, co100, eo100⟩ := Kd.N_slice HO131.out; subst eo100; have hnb101 := NB109_126.out; have hnc101 := NB126_109.out; obtain ⟨hcz102_0, hcz102_1, hcz102_2, hfz102_0, hfz102_1, hfz102_2⟩ := blk3 BK109.out; have hnb103 := NB126_101.out; have hnc103 := NB101_126.out; have hnb104 := NB126_102.out; have hnc104 := NB102_126.out; obtain ⟨hcz105_0, hcz105_1, hcz105_2, hfz105_0, hfz105_1, hfz105_2⟩ := blk3 BK126.out) | (go_at_call 14; (with_reducible refine (smf_Same.calls k2 t104 t105 _ _ t106 t119 t120 _ _ t121 true _ ?side1 ?side2 ?side3 ?side4 A77.out).mono ?_); (case side1 => refine (Kd.N_reads' (e := 30) (base := w.heap.size) (ok := fun k_ => (((some k_ ≠ (.slice Ao91 t121.length co91 : Value).ownBlock ∧ (k_ ≠ gb101 ∧ (k_ ≠ gb102 ∧ (k_ ≠ gb109 ∧ k_ ≠ gb126)))) ∧ some k_ ≠ (.slice Ao100 t129.length co100 : Value).ownBlock) ∧ k_ ≠ gb134)) (n := t106.length) (c := co34) ?_).2.2; exact qqy); (case side2 => exact (Kd.N_reads' HO_110002.out).2.1); (case side3 => refine (Kd.N_reads' (e := 30) (base := w.heap.size) (ok := fun k_ => (((some k_ ≠ (.slice Ao34 t106.length co34 : Value).ownBlock ∧ (k_ ≠ gb101 ∧ (k_ ≠ gb102 ∧ (k_ ≠ gb109 ∧ k_ ≠ gb126)))) ∧ some k_ ≠ (.slice Ao100 t129.length co100 : Value).ownBlock) ∧ k_ ≠ gb134)) (n := t121.length) (c := co91) ?_).2.2; exact qqA); (case side4 => exact (Kd.N_reads' HO123.out).2.1); rintro e w106 ⟨rfl, hb⟩; replace HO_110002 := Aside0.mk (Kd.N_below qqy hb); replace HO123 := Aside0.mk (Kd.N_below qqA hb); replace HO131 := Aside0.mk (Kd.N_below (by (with_reducible repeat (first | apply Kd.N_alloc | apply Kd.N_drewN | apply Kd.N_drew)); exact (Kd.N_mono (Kd.N_far (p := ⟨gb134, 2, none⟩) (Kd.N_far (p := ⟨gb134, 1, none⟩) (Kd.N_far (p := ⟨gb134, 0, none⟩) (Kd.N_mono HO131.out (fun k_ hk => (⟨hk, hk.2⟩ : _ ∧ k_ ≠ gb134))) (fun _ hk => hk.2) (.int .i64 t127)) (fun _ hk => hk.2) (.int .i64 t128)) (fun _ hk => hk.2) (.slice Ao100 t129.length co100)) (fun _ h_ => h_.1))) hb); replace BK101 := Aside0.mk (blk_below (g := gb101) (o := .cells #[.int .i64 a0_0, .int .i64 a0_1, .slice A0_2 l0_2.length c0_2] 24 (0, 0)) (by refine bq ?_; refine blk_far ?_ NB101_134.out _; refine bq ?_; refine blk_far ?_ NB101_134.out _; refine bq ?_; refine blk_far ?_ NB101_134.out _; exact bq BK101.out) hb); replace BK102 := Aside0.mk (blk_below (g := gb102) (o := .cells #[.int .u8 a1_0, .int .u8 a1_1, .int .u8 a1_2, .int .u8 a1_3] 43 (0, 0)) (by refine bq ?_; refine blk_far ?_ NB102_134.out _; refine bq ?_; refine blk_far ?_ NB102_134.out _; refine bq ?_; refine blk_far ?_ NB102_134.out _; exact bq BK102.out) hb); replace BK109 := Aside0.mk (blk_below (g := gb109) (o := .cells #[.int .i64 t104, .int .i64 t105, .slice Ao34 t106.length co34] 24 (0, 0)) (by refine bq ?_; refine blk_far ?_ NB109_134.out _; refine bq ?_; refine blk_far ?_ NB109_134.out _; refine bq ?_; refine blk_far ?_ NB109_134.out _; exact bq BK109.out) hb); replace BK126 := Aside0.mk (blk_below (g := gb126) (o := .cells #[.int .i64 t119, .int .i64 t120, .slice Ao91 t121.length co91] 24 (0, 0)) (by refine bq ?_; refine blk_far ?_ NB126_134.out _; refine bq ?_; refine blk_far ?_ NB126_134.out _; refine bq ?_; refine blk_far ?_ NB126_134.out _; exact bq BK126.out) hb); replace BK134 := Aside0.mk (blk_below (g := gb134) (o := .cells #[.int .i64 t127, .int .i64 t128, .slice Ao100 t129.length co100] 24 (0, 0)) (by refine bq ?_; refine blk_put (cs := #[.int .i64 t127, .int .i64 t128, .slice none 0 0]) ?_ 2 _ rfl; refine bq ?_; refine blk_put (cs := #[.int .i64 t127, .int .i64 0, .slice none 0 0]) ?_ 1 _ rfl; refine bq ?_; refine blk_put (cs := #[.int .i64 0, .int .i64 0, .slice none 0 0]) ?_ 0 _ rfl; exact bq BK134.out) hb); replace HB := Aside0.mk (below_step (qS5 GE101 GE102 GE109 GE126 GE134 HB.out) hb); (try clear hb); (try clear hb2); (try clear hk); (try clear hi); obtain ⟨hcz107_0, hcz107_1, hcz107_2, hfz107_0, hfz107_1, hfz107_2⟩ := blk3 BK134.out))
          go_ret
          exact ⟨qqH, qS5 GE101 GE102 GE109 GE126 GE134 HB.out⟩
end Go.Proofs.Ytdmnknhlibaaoaa.M
namespace Go.Proofs.Ytdmnknhlibaaoaa.Z
open Go.RowKit Go.Proofs.YtdmnknhlibaaoaaW.PrintWords Go.Proofs.YtdmnknhlibaaoaaW.PrintLast Go.Proofs.YtdmnknhlibaaoaaW.PrintMore Go.Proofs.Ytdmnknhlibaaoaa.M
set_option linter.unusedVariables false
theorem trksB_app : ∀ a b : List (List Msg), trksB (a ++ b) = trksB a ++ trksB b
  | [], b => rfl
  | x :: r, b => by rw [List.cons_append, trksB, trksB, trksB_app r b, List.append_assoc]
theorem take_snoc {ts : List (List Msg)} {i : Nat} (h : i < ts.length) : ts.take (i + 1) = ts.take i ++ [rd_L3 ts (i : Int)] := by
  have hd := rdL_drop ts i h
  have h5 : ts[i] = rd_L3 ts (i : Int) := by
    rw [List.drop_eq_getElem_cons h] at hd
    injection hd
  rw [List.take_add_one, List.getElem?_eq_getElem h, h5]
  rfl
theorem trks_snoc {ts : List (List Msg)} {i : Nat} (h : i < ts.length) : (trksB (ts.take (i + 1))).length = (trksB (ts.take i)).length + 8 + (enc 0 (rd_L3 ts (i : Int))).length := by
  rw [take_snoc h, trksB_app, List.length_append]
  show _ + (trkB _ ++ []).length = _
  rw [List.append_nil, trkB_len]
  omega
theorem totT_take : ∀ (ts : List (List Msg)) (i : Nat), totT (ts.take i) ≤ totT ts
  | [], i => by rw [List.take_nil]; exact Nat.le_refl _
  | x :: r, 0 => Nat.zero_le _
  | x :: r, i + 1 => by rw [List.take_succ_cons, totT, totT]; have := totT_take r i; omega
theorem pr_mid {c : List Int} (hc : ∀ r, ChR (c ++ r) (.ok ([], r))) : ∀ {ts : List (List Msg)}, (∀ l ∈ ts, Rights l ∧ endsB l = true ∧ (enc 0 l).length < 4294967296) → ∀ (K : Nat), K < ts.length → PrR ts.length (trksB (ts.take K) ++ (c ++ trksB (ts.drop K))) (.ok (ts, []))
  | [], _, K, hK => absurd hK (Nat.not_lt_zero _)
  | l :: r, h, 0, _ => by
    have h1 := pr_trks h []
    rw [List.append_nil] at h1
    exact .skip (n := r.length) (hc (trksB (l :: r))) h1
  | l :: r, h, K + 1, hK => by
    obtain ⟨h1, h2, h3⟩ := h l (by simp)
    have e : trksB ((l :: r).take (K + 1)) ++ (c ++ trksB ((l :: r).drop (K + 1))) = trkB l ++ (trksB (r.take K) ++ (c ++ trksB (r.drop K))) := by
      rw [List.take_succ_cons, List.drop_succ_cons, trksB, List.append_assoc]
    rw [e]
    exact .take (ch_trk h1 h2 h3 _) (endsB_ne h2) (pr_mid hc (fun x hx => h x (by simp [hx])) K (by simpa using hK))
theorem big_f (n : Int) : partitalaw16_big.f n = some (strOfNums (four n)) := rfl
theorem chunks_l0 {f d : Int} {ts : List (List Msg)} (h : FR f d ts) {x3 : Int} {K : Nat} (hK : K < ts.length) (hk : Int.tmod (wrap64 x3) (ts.length : Int) = (K : Int)) {id inn : ByteArray} {t : List Int}
    (hid : bytesOf id = t) (ht : t.length = 4) (hne : t ≠ trkL) (hin : inn.size ≤ 200) :
    ∀ (j i : Nat), i + j = K → Ev (fun k => partitalaw16_SmfChunks.l0 k x3 true (bytesF f d ts) id inn (14 + ((trksB (ts.take i)).length : Int)) (i : Int) f d ts) true
  | 0, i, hj => by
    obtain rfl : i = K := by omega
    have hs := h.size
    have hl := h.len
    have hz4 : ∀ n, (strOfNums (four n)).size = 4 := fun n => by rw [str_size]; rfl
    have hidz : id.size = 4 := by rw [← bytesOf_length, hid, ht]
    have htd : trksB ts = trksB (ts.take i) ++ trksB (ts.drop i) := by rw [← trksB_app, List.take_append_drop]
    have hfb : bytesOf (bytesF f d ts) = (headB f d ts.length ++ trksB (ts.take i)) ++ trksB (ts.drop i) := by
      rw [h.bytes, List.append_assoc, ← htd]
      rfl
    generalize hA : (trksB (ts.take i)).length = A
    have hp : (headB f d ts.length ++ trksB (ts.take i)).length = 14 + A := by rw [List.length_append, headB_len, hA]
    have hsz : (bytesF f d ts).size = 14 + A + (trksB (ts.drop i)).length := by rw [← bytesOf_length, hfb, List.length_append, hp]
    have q1 : bytesOf ((bytesF f d ts).extract 0 (14 + A)) = headB f d ts.length ++ trksB (ts.take i) := by
      rw [bytesOf_extract, hfb, List.drop_zero, Nat.sub_zero, ← hp, List.take_left]
    have q2 : bytesOf ((bytesF f d ts).extract (14 + A) (bytesF f d ts).size) = trksB (ts.drop i) := by
      rw [bytesOf_extract, hfb, ← hp, List.drop_left, List.take_of_length_le (by omega)]
    have z1 : ((bytesF f d ts).extract 0 (14 + A)).size = 14 + A := by rw [← bytesOf_length, q1, hp]
    have z2 : ((bytesF f d ts).extract (14 + A) (bytesF f d ts).size).size = (trksB (ts.drop i)).length := by rw [← bytesOf_length, q2]
    have hcb : bytesOf ((id ++ strOfNums (four (inn.size : Int))) ++ inn) = t ++ (four (inn.size : Int) ++ bytesOf inn) := by
      rw [bytesOf_append, bytesOf_append, hid, bytesOf_str (four_bytes _), List.append_assoc]
    have hcz : ((id ++ strOfNums (four (inn.size : Int))) ++ inn).size = 8 + inn.size := by
      rw [ByteArray.size_append, ByteArray.size_append, hz4, hidz]
    have hc : ∀ r, ChR ((t ++ (four (inn.size : Int) ++ bytesOf inn)) ++ r) (.ok ([], r)) := fun r => by
      rw [List.append_assoc, List.append_assoc]
      exact .other ht rfl (by rw [bytesOf_length, val4_four (by omega) (by omega)]) hne
    have hcl : (t ++ (four (inn.size : Int) ++ bytesOf inn)).length = 8 + inn.size := by rw [← hcb, bytesOf_length, hcz]
    have hcne : t ++ (four (inn.size : Int) ++ bytesOf inn) ≠ [] := fun e => by rw [e] at hcl; simp at hcl; omega
    refine Ev.step (fun k => by rw [partitalaw16_SmfChunks.l0]) ?_
    rw [hk]
    have et : (14 + (A : Int)).toNat = 14 + A := by omega
    rw [et]
    refine Ev.no (by omega) (Ev.no (by omega) (Ev.no (by omega) (Ev.bind (Ev.eq (big_f _)) ?_)))
    refine Ev.yes (by rw [hz4]; omega) (Ev.yes (by rw [ByteArray.size_append, hz4]; omega) (Ev.yes (by omega) (Ev.yes (by omega) (Ev.yes (by rw [z1, hcz]; omega) (Ev.yes (by rw [ByteArray.size_append, z1, z2, hcz]; omega) ?_)))))
    generalize hch : (id ++ strOfNums (four (inn.size : Int))) ++ inn = ch at hcb hcz ⊢
    have hb1 : bytesOf (((bytesF f d ts).extract 0 (14 + A) ++ ch) ++ (bytesF f d ts).extract (14 + A) (bytesF f d ts).size) = headB f d ts.length ++ (trksB (ts.take i) ++ ((t ++ (four (inn.size : Int) ++ bytesOf inn)) ++ trksB (ts.drop i))) := by
      rw [bytesOf_append, bytesOf_append, q1, q2, hcb]
      simp only [List.append_assoc]
    have hz1 : (((bytesF f d ts).extract 0 (14 + A) ++ ch) ++ (bytesF f d ts).extract (14 + A) (bytesF f d ts).size).size = (bytesF f d ts).size + (8 + inn.size) := by
      rw [ByteArray.size_append, ByteArray.size_append, z1, z2, hcz]
      omega
    have hb2 : bytesOf (bytesF f d ts ++ ch) = headB f d ts.length ++ (trksB ts ++ (t ++ (four (inn.size : Int) ++ bytesOf inn))) := by
      rw [bytesOf_append, h.bytes, hcb]
      exact List.append_assoc _ _ _
    have hz2 : (bytesF f d ts ++ ch).size = (bytesF f d ts).size + (8 + inn.size) := by rw [ByteArray.size_append, hcz]
    have p1 : Ev (fun k => smf_Parse.f k (((bytesF f d ts).extract 0 (14 + A) ++ ch) ++ (bytesF f d ts).extract (14 + A) (bytesF f d ts).size)) (f, d, ts, 0, 0) :=
      parse_right (by omega) h.head hb1 (pr_mid hc h.trk i hK)
    have p2 : Ev (fun k => smf_Parse.f k (bytesF f d ts ++ ch)) (0, 0, [], ((bytesF f d ts).size : Int), 160) := by
      have h2 := parse_right (s := bytesF f d ts ++ ch) (by omega) h.head hb2 (pr_trks h.trk _)
      refine Ev.ok h2 ?_
      dsimp only
      rw [if_neg hcne]
      unfold pos
      rw [hz2, hcl]
      have e : (((bytesF f d ts).size + (8 + inn.size) : Nat) : Int) - ((8 + inn.size : Nat) : Int) = ((bytesF f d ts).size : Int) := by omega
      rw [e]
    refine Ev.bind p1 ?_
    dsimp only
    refine Ev.yes (by rw [hcz]; omega) (Ev.bind p2 ?_)
    dsimp only
    refine Ev.yes rfl (Ev.yes rfl (Ev.yes rfl (Ev.bind (Ev.ok (same_ev f d ts f d ts h.small) (decide_eq_true ⟨rfl, rfl, rfl⟩)) (Ev.yes rfl (Ev.yes rfl (Ev.yes rfl (Ev.ok (Ev.now _) (by simp))))))))
  | j + 1, i, hj => by
    have hi : i < ts.length := by omega
    have hm := rdL_mem ts i hi
    have hsn := trks_snoc hi
    have h16 : ts.length ≤ 16 := h.head.2.2.2.2.1
    have hlen : (trksB (ts.take (i + 1))).length ≤ 99000 := by
      have h1 := trksB_len (ts.take (i + 1))
      have h2 := totT_take ts (i + 1)
      have h3 := h.sm
      omega
    obtain ⟨hR, hE⟩ := h.tr _ hm
    have ht1 := totT_mem hm
    have ht2 := h.sm
    refine Ev.step (fun k => by rw [partitalaw16_SmfChunks.l0]) ?_
    rw [hk]
    have u1 : ¬ (ts.length : Int) = 0 := by omega
    have u2 : (i : Int) < (K : Int) := by omega
    have u3 : (i : Int) < (ts.length : Int) := by omega
    have u4 : tot (rd_L3 ts (i : Int)) ≤ 1000000000 := Nat.le_trans ht1 (Nat.le_trans ht2 (by decide))
    refine Ev.no u1 ?_
    refine Ev.yes u2 ?_
    refine Ev.yes (Int.natCast_nonneg _) ?_
    refine Ev.yes u3 ?_
    refine Ev.bind (encode_ok hR u4) ?_
    dsimp only
    refine Ev.yes rfl ?_
    have e1 : wrap64 (wrap64 ((14 + ((trksB (ts.take i)).length : Int)) + 8) + ((strOfNums (enc 0 (rd_L3 ts (i : Int)))).size : Int)) = 14 + ((trksB (ts.take (i + 1))).length : Int) := by
      rw [str_size, w64 (x := (14 + ((trksB (ts.take i)).length : Int)) + 8) (by omega) (by omega), w64 (by omega) (by omega), hsn]
      omega
    have e2 : wrap64 ((i : Int) + 1) = ((i + 1 : Nat) : Int) := by rw [w64 (by omega) (by omega)]; omega
    have hrec := chunks_l0 h hK hk hid ht hne hin j (i + 1) (by omega)
    generalize hX : wrap64 (wrap64 ((14 + ((trksB (ts.take i)).length : Int)) + 8) + ((strOfNums (enc 0 (rd_L3 ts (i : Int)))).size : Int)) = X at e1 ⊢
    generalize hY : wrap64 ((i : Int) + 1) = Y at e2 ⊢
    subst e1 e2
    exact hrec
theorem chunks_j0 {f d : Int} {ts : List (List Msg)} (h : FR f d ts) {x3 : Int} (h30 : 0 ≤ x3) (h31 : x3 ≤ 255) {id : ByteArray} {t : List Int} (hid : bytesOf id = t) (ht : t.length = 4) (hne : t ≠ trkL) (x2 : ByteArray) :
    Ev (fun k => partitalaw16_SmfChunks.j0 k x2 x3 true (bytesF f d ts) id f d ts) true := by
  obtain ⟨m0, m1, m2⟩ := mn_le (x2.size : Int) (by omega)
  have hn := h.head.2.2.2.1
  obtain ⟨k0, k1⟩ := tmod_range (x := wrap64 x3) (n := (ts.length : Int)) (by rw [w64 (by omega) (by omega)]; exact h30) (by omega)
  obtain ⟨K, hk⟩ : ∃ K : Nat, Int.tmod (wrap64 x3) (ts.length : Int) = (K : Int) := ⟨(Int.tmod (wrap64 x3) (ts.length : Int)).toNat, by omega⟩
  have hz : (x2.extract 0 (mn (x2.size : Int) 200).toNat).size ≤ 200 := by
    rw [ByteArray.size_extract]
    omega
  refine Ev.step (fun k => by rw [partitalaw16_SmfChunks.j0]) ?_
  have := chunks_l0 h (x3 := x3) (K := K) (by omega) hk hid ht hne hz K 0 (by omega)
  have e : 14 + ((trksB (ts.take 0)).length : Int) = 14 := by simp [trksB]
  rw [e] at this
  exact Ev.yes m0 (Ev.yes m1 this)
theorem smfChunks {f d b0 b1 b2 b3 a3 : Int} {a2 : ByteArray} {L : List (List Msg)} (hf : I64 f) (hd : I64 d) (hL : Raws L) (h0 : 0 ≤ b0 ∧ b0 ≤ 255) (h1 : 0 ≤ b1 ∧ b1 ≤ 255) (h2 : 0 ≤ b2 ∧ b2 ≤ 255) (h3 : 0 ≤ b3 ∧ b3 ≤ 255)
    (hs : a2.size ≤ 140737488351232) (h30 : 0 ≤ a3) (h31 : a3 ≤ 255) : Ev (fun k => partitalaw16_SmfChunks.f k f d L b0 b1 b2 b3 a2 a3) true := by
  obtain ⟨f1, d1, a, e1, g1⟩ := file_ev hf hd hL
  have hr := gf_fr g1
  have hz := hr.size
  have hlen : (fileB f1 d1 a).length = 14 + (trksB a).length := by unfold fileB; rw [List.length_append, headB_len]
  have hb : bytesOf (strOfNums [b0, b1, b2, b3]) = [b0, b1, b2, b3] := bytesOf_str (fun x hx => by
    simp only [List.mem_cons, List.not_mem_nil, or_false] at hx
    rcases hx with rfl | rfl | rfl | rfl
    · exact h0
    · exact h1
    · exact h2
    · exact h3)
  refine Ev.bind examples_ev (Ev.yes rfl (Ev.bind e1 ?_))
  dsimp only
  refine Ev.bind hr.print ?_
  dsimp only
  refine Ev.yes rfl (Ev.no (by omega) (Ev.bind (Ev.now _) ?_))
  have hX : bytesOf (⟨#[88, 84, 114, 107]⟩ : ByteArray) = [88, 84, 114, 107] := rfl
  by_cases c : (strOfNums [b0, b1, b2, b3]).toList = ([77, 84, 114, 107] : List UInt8)
  · exact Ev.yes c (chunks_j0 hr h30 h31 hX rfl (by decide) a2)
  · refine Ev.no c (chunks_j0 hr h30 h31 hb rfl (fun e => c ?_) a2)
    have e2 : strOfNums [b0, b1, b2, b3] = (⟨#[77, 84, 114, 107]⟩ : ByteArray) := bytesOf_inj (hb.trans e)
    rw [e2, Lib.toList_data]
end Go.Proofs.Ytdmnknhlibaaoaa.Z
namespace Go.Proofs.Ytdmnknhlibaaoaa.R
open Go.RowKit Go.ChangeShapes Go.WideShapes
set_option linter.unusedVariables false
def InU8 (x : Int) : Prop := 0 ≤ x ∧ x ≤ 255
theorem inU8_wf {x : Int} (h : (Lit.int .u8 x).wf = true) : InU8 x := by
  simpa [InU8, Lit.wf, IntKind.min, IntKind.max, IntKind.signed, IntKind.bits] using h
theorem okWide_43 {w : World} {r : Reach} {b0 : Nat} {v : Value} (h : Value.okWide Try.prog w r b0 43 v) : ∃ c0 c1 c2 c3, v = .agg #[c0, c1, c2, c3] := by
  simp only [Value.okWide, Try.underlying43] at h
  obtain ⟨cs, h1, h2, _⟩ := h
  have hC : Try.prog.cellsOf 43 = 4 := by kernel_rfl
  rw [hC] at h2
  obtain ⟨l⟩ := cs
  match l, h2 with
  | [c0, c1, c2, c3], _ => exact ⟨c0, c1, c2, c3, h1⟩
theorem rds_43 {H : Type} {enc : TypeId × Value → H} {w : World} {base : Nat} {sp : Nat → Bool} {held : Bool} {fuel : Nat} {c0 c1 c2 c3 : Value} {y : DataW H × List MemPlace}
    (h : DataW.trod enc Try.prog w base sp held fuel 43 [c0, c1, c2, c3] = some y) :
    ∃ x0 x1 x2 x3, c0 = .int .u8 x0 ∧ c1 = .int .u8 x1 ∧ c2 = .int .u8 x2 ∧ c3 = .int .u8 x3 ∧ InU8 x0 ∧ InU8 x1 ∧ InU8 x2 ∧ InU8 x3 := by
  obtain ⟨y0, y1, y2, y3, m, hx, hy0, hy1, hy2, hy3⟩ := trod_array4 Try.underlying43 (by kernel_rfl) h
  obtain ⟨x0, e0, _, w0⟩ := DataW.trod_int Try.underlying5 hy0
  obtain ⟨x1, e1, _, w1⟩ := DataW.trod_int Try.underlying5 hy1
  obtain ⟨x2, e2, _, w2⟩ := DataW.trod_int Try.underlying5 hy2
  obtain ⟨x3, e3, _, w3⟩ := DataW.trod_int Try.underlying5 hy3
  simp at e0 e1 e2 e3
  exact ⟨x0, x1, x2, x3, e0, e1, e2, e3, inU8_wf w0, inU8_wf w1, inU8_wf w2, inU8_wf w3⟩
end Go.Proofs.Ytdmnknhlibaaoaa.R
