/- What the statement SmfEnds alone needs: its printed function, and its pure part (part 1). -/
import Derived.Test.YtdmnknhlibaaoaaCW
import Derived.Test.YtdmnknhlibaaoaaC1
import Derived.Test.YtdmnknhlibaaoaaC2
import Derived.Test.YtdmnknhlibaaoaaC4
import Derived.Test.YtdmnknhlibaaoaaC3
namespace Go.Proofs.Ytdmnknhlibaaoaa.M
open Go.RowKit Go.Proofs.YtdmnknhlibaaoaaW.PrintWords Go.Proofs.YtdmnknhlibaaoaaW.PrintLast Go.Proofs.YtdmnknhlibaaoaaW.PrintMore
attribute [local go_sem] max2_int min2_int max_two min_two max_three min_three max_four min_four
set_option linter.unusedVariables false
set_option linter.unusedSimpArgs false
def partitalaw16_big.f (a0 : Int) : Option (ByteArray) := some (strOfNums (([(a0 / 16777216) % 256, (a0 / 65536) % 256, (a0 / 256) % 256, (a0) % 256] : List Int)))
set_option maxHeartbeats 8000000 in
set_option maxRecDepth 100000 in
theorem partitalaw16_big.calls (a0 : Int) (r : ByteArray) (w : World) (h : partitalaw16_big.f a0 = some r) :
    Calls Try.prog 23 #[.int .i64 a0] w fun e w' => e = .returned (.string r) ∧ Below w.heap.size w w' := by
  have HB := Aside0.mk (Below.refl w.heap.size w)
  have H := h
  unfold partitalaw16_big.f at H
  clear h
  obtain ⟨y101, hy101⟩ : ∃ y_ : List Int, y_ = (([(a0 / 16777216) % 256, (a0 / 65536) % 256, (a0 / 256) % 256, (a0) % 256] : List Int)) := ⟨_, rfl⟩
  replace H : (some (strOfNums y101)) = some r := by first | (rw [hy101]; with_reducible exact H) | (have H2_ := (Option.bind_some _ _).symm.trans H; rw [hy101]; with_reducible exact H2_) | (have H2_ := (Option.bind_some _ _).symm.trans H; with_reducible exact H2_) | with_reducible exact H | (rw [hy101]; exact H) | exact H
  have Ny101 := Aside0.mk hy101
  clear hy101
  obtain rfl := Option.some.inj H
  go_enter Try.func23, Try.ntmps23
  go_wp2_with (first | ((with_reducible refine gate_dst (N := 14) rfl ?_); refine Kd.R_lit (Kd.int .u8) _ 5 ?hg (N := 14) ?hd (xs := ([(a0 / 16777216) % 256, (a0 / 65536) % 256, (a0 / 256) % 256, (a0) % 256] : List Int)) (inner := [.int .u8 ((a0 / 16777216) % 256), .int .u8 ((a0 / 65536) % 256), .int .u8 ((a0 / 256) % 256), .int .u8 ((a0) % 256)]) (ok := fun _ => True) (okp := fun _ => True) ?hr ?hp (fun _ hk => hk) trivial (Below.refl _ _) (Nat.le_refl _) (by simp) ?_; (case hd => rfl); (case hg => rfl); (case hr => exact qq9); (case hp => exact (Reps.one (show Kd.M (Kd.int .u8) _ _ _ ((a0 / 16777216) % 256) [.int .u8 ((a0 / 16777216) % 256)] from rfl) (Reps.one (show Kd.M (Kd.int .u8) _ _ _ ((a0 / 65536) % 256) [.int .u8 ((a0 / 65536) % 256)] from rfl) (Reps.one (show Kd.M (Kd.int .u8) _ _ _ ((a0 / 256) % 256) [.int .u8 ((a0 / 256) % 256)] from rfl) (Reps.one (show Kd.M (Kd.int .u8) _ _ _ ((a0) % 256) [.int .u8 ((a0) % 256)] from rfl) (Reps.none _ _)))))); intro v102 w2 ho3 hb hg_ hnew_; clear hg_ hnew_; (first | rw [← Ny101.out] at ho3 | (simp only [Int.reduceToNat] at ho3; rw [← Ny101.out] at ho3)); have HO103 := Aside0.mk (Kd.R_lower ho3 (below_size (qB HB.out))); replace HB := Aside0.mk (below_step (qB HB.out) hb); clear hb ho3; have hcv4 := own_string (P := Try.prog) Try.underlying39 Try.underlying5 Try.underlying9 (Kd.own_of_R HO103.out)))
  go_ret
  exact ⟨qq3, qB HB.out⟩
def partitalaw16_SmfEnds.f (k : Nat) (a0_0 : Int) (a0_1 : Int) (l0_2 : List (List (S28))) (a1 : Int) (a2 : Int) : Option (Bool) := (partitalaw16_examples.f k).bind fun t102 => (if t102 = true then ((partitalaw16_File.f k a0_0 a0_1 l0_2).bind fun bt103 => (if (bt103.2.2.length : Int) = 0 then (none) else (if 0 ≤ (Int.tmod (wrap64 (a1)) (bt103.2.2.length : Int)) then (if (Int.tmod (wrap64 (a1)) (bt103.2.2.length : Int)) < (bt103.2.2.length : Int) then (if ([] : List (List (S28))).length + bt103.2.2.length < 5864062014805 then ((some (([] : List (List (S28))) ++ bt103.2.2 : List (List (S28)))).bind fun y110 => (if 0 ≤ (wrap64 (((rd_L3 bt103.2.2 (Int.tmod (wrap64 (a1)) (bt103.2.2.length : Int))).length : Int) - 1)) then (if (wrap64 (((rd_L3 bt103.2.2 (Int.tmod (wrap64 (a1)) (bt103.2.2.length : Int))).length : Int) - 1)) ≤ ((rd_L3 bt103.2.2 (Int.tmod (wrap64 (a1)) (bt103.2.2.length : Int))).length : Int) then (if (Int.tmod (wrap64 (a1)) (bt103.2.2.length : Int)) < (y110.length : Int) then ((some (y110.set ((Int.tmod (wrap64 (a1)) (bt103.2.2.length : Int)) : Int).toNat ((rd_L3 bt103.2.2 (Int.tmod (wrap64 (a1)) (bt103.2.2.length : Int))).take ((wrap64 (((rd_L3 bt103.2.2 (Int.tmod (wrap64 (a1)) (bt103.2.2.length : Int))).length : Int) - 1)) : Int).toNat) : List (List (S28)))).bind fun y119 => ((smf_Check.f k bt103.1 bt103.2.1 y119).bind fun bt120 => (if ((rd_L3 bt103.2.2 (Int.tmod (wrap64 (a1)) (bt103.2.2.length : Int))).length : Int) = 0 then (none) else (if 0 ≤ (Int.tmod (wrap64 (a2)) ((rd_L3 bt103.2.2 (Int.tmod (wrap64 (a1)) (bt103.2.2.length : Int))).length : Int)) then (if (Int.tmod (wrap64 (a2)) ((rd_L3 bt103.2.2 (Int.tmod (wrap64 (a1)) (bt103.2.2.length : Int))).length : Int)) ≤ ((rd_L3 bt103.2.2 (Int.tmod (wrap64 (a1)) (bt103.2.2.length : Int))).length : Int) then ((some ((rd_L3 bt103.2.2 (Int.tmod (wrap64 (a1)) (bt103.2.2.length : Int))).take ((Int.tmod (wrap64 (a2)) ((rd_L3 bt103.2.2 (Int.tmod (wrap64 (a1)) (bt103.2.2.length : Int))).length : Int)) : Int).toNat : List (S28))).bind fun y122 => (if ([] : List (S28)).length + y122.length < 2513169434916 then ((some (([] : List (S28)) ++ y122 : List (S28))).bind fun y127 => ((partitalaw16_End.f 0).bind fun bt130 => (if y127.length < 2513169434916 then ((some (y127 ++ [(⟨bt130.1, bt130.2.1, bt130.2.2.1, bt130.2.2.2.1, bt130.2.2.2.2.1, bt130.2.2.2.2.2⟩ : S28)] : List (S28))).bind fun y136 => ((some ((rd_L3 bt103.2.2 (Int.tmod (wrap64 (a1)) (bt103.2.2.length : Int))).drop ((Int.tmod (wrap64 (a2)) ((rd_L3 bt103.2.2 (Int.tmod (wrap64 (a1)) (bt103.2.2.length : Int))).length : Int)) : Int).toNat : List (S28))).bind fun y139 => (if y136.length + y139.length < 2513169434916 then ((some (y119.set ((Int.tmod (wrap64 (a1)) (bt103.2.2.length : Int)) : Int).toNat (y136 ++ y139) : List (List (S28)))).bind fun y147 => ((smf_Check.f k bt103.1 bt103.2.1 y147).bind fun bt148 => ((smf_Print.f k bt103.1 bt103.2.1 y147).bind fun bt150 => ((wire_Encode.f k (rd_L3 y147 (Int.tmod (wrap64 (a1)) (bt103.2.2.length : Int)))).bind fun bt153 => ((partitalaw16_big.f 6).bind fun t155 => (if 4 + t155.size ≤ 9223372036854775807 then (if ((⟨#[77, 84, 104, 100]⟩ : ByteArray) ++ t155).size + 6 ≤ 9223372036854775807 then (if (((⟨#[77, 84, 104, 100]⟩ : ByteArray) ++ t155) ++ (⟨#[0, 0, 0, 1, 0, 96]⟩ : ByteArray)).size + 4 ≤ 9223372036854775807 then ((partitalaw16_big.f (bt153.1.size : Int)).bind fun t156 => (if ((((⟨#[77, 84, 104, 100]⟩ : ByteArray) ++ t155) ++ (⟨#[0, 0, 0, 1, 0, 96]⟩ : ByteArray)) ++ (⟨#[77, 84, 114, 107]⟩ : ByteArray)).size + t156.size ≤ 9223372036854775807 then (if (((((⟨#[77, 84, 104, 100]⟩ : ByteArray) ++ t155) ++ (⟨#[0, 0, 0, 1, 0, 96]⟩ : ByteArray)) ++ (⟨#[77, 84, 114, 107]⟩ : ByteArray)) ++ t156).size + bt153.1.size ≤ 9223372036854775807 then ((smf_Parse.f k ((((((⟨#[77, 84, 104, 100]⟩ : ByteArray) ++ t155) ++ (⟨#[0, 0, 0, 1, 0, 96]⟩ : ByteArray)) ++ (⟨#[77, 84, 114, 107]⟩ : ByteArray)) ++ t156) ++ bt153.1)).bind fun bt157 => (if bt120.2 = 160 then (if bt120.1 = (Int.tmod (wrap64 (a1)) (bt103.2.2.length : Int)) then (if bt148.2 = 160 then (if bt148.1 = (Int.tmod (wrap64 (a1)) (bt103.2.2.length : Int)) then (if bt150.2 = 160 then (if bt150.1.toList = ([] : List UInt8) then (if bt153.2 = 0 then (if bt157.2.2.2.2 = 160 then (if bt157.2.2.2.1 = 22 then ((smf_Same.f k bt157.1 bt157.2.1 bt157.2.2.1 0 0 ([] : List (List (S28)))).bind fun t165 => (some t165)) else (none)) else (none)) else (none)) else (none)) else (none)) else (none)) else (none)) else (none)) else (none))) else (none)) else (none))) else (none)) else (none)) else (none))))))) else (none)))) else (none)))) else (none))) else (none)) else (none))))) else (none)) else (none)) else (none))) else (none)) else (none)) else (none)))) else (some false))
theorem partitalaw16_SmfEnds.mono : ∀ a0 a1 a2 a3 a4 k, LeO (partitalaw16_SmfEnds.f k a0 a1 a2 a3 a4) (partitalaw16_SmfEnds.f (k + 1) a0 a1 a2 a3 a4) := by
  intro a0 a1 a2 a3 a4 k
  unfold partitalaw16_SmfEnds.f
  repeat' first
      | (with_reducible exact partitalaw16_File.mono _ _ _ _)
      | (with_reducible exact partitalaw16_examples.mono _)
      | (with_reducible exact smf_Check.mono _ _ _ _)
      | (with_reducible exact smf_Parse.mono _ _)
      | (with_reducible exact smf_Print.mono _ _ _ _)
      | (with_reducible exact smf_Same.mono _ _ _ _ _ _ _)
      | (with_reducible exact wire_Encode.mono _ _)
      | (with_reducible exact LeO.refl _)
      | (with_reducible exact LeO.none _)
      | (with_reducible refine LeO.ite ?_ ?_)
      | (with_reducible refine LeO.bind ?_ (fun _ => ?_))
      | exact partitalaw16_File.mono _ _ _ _
      | exact partitalaw16_examples.mono _
      | exact smf_Check.mono _ _ _ _
      | exact smf_Parse.mono _ _
      | exact smf_Print.mono _ _ _ _
      | exact smf_Same.mono _ _ _ _ _ _ _
      | exact wire_Encode.mono _ _
      | exact LeO.none _
      | refine LeO.ite ?_ ?_
      | refine LeO.bind ?_ (fun _ => ?_)
def partitalaw16_SmfEnds.T7 : Bool × List (List Nat × List Nat) := (true, [([], []), ([0], [0]), ([], []), ([2], [2]), ([], []), ([4], [4]), ([5], [5]), ([1, 3, 6], [1, 3, 6]), ([], []), ([8, 7, 6, 0, 1, 2, 3, 4, 5, 6, 7, 8], [7, 8])])
def partitalaw16_SmfEnds.B7 : List Nat := [0, 1, 0, 4, 0, 16, 48, 127, 0, 511]
theorem partitalaw16_SmfEnds.tab7 : rtab .any (opsOf Try.f9 7) = partitalaw16_SmfEnds.T7 := by kernel_rfl
theorem partitalaw16_SmfEnds.bits7 : waitsOk partitalaw16_SmfEnds.T7.2 partitalaw16_SmfEnds.B7 = true := by kernel_rfl
def partitalaw16_SmfEnds.T8 : Bool × List (List Nat × List Nat) := (true, [([], []), ([0], [0]), ([], []), ([], []), ([], []), ([4], [4]), ([5], [5]), ([3, 6], [3, 6]), ([1, 2, 0, 1, 2, 3, 4, 5, 6, 7], [1, 2]), ([8, 7, 0, 1, 2, 3, 4, 5, 6, 7], [7, 8])])
def partitalaw16_SmfEnds.B8 : List Nat := [0, 1, 0, 0, 0, 16, 48, 120, 255, 511]
theorem partitalaw16_SmfEnds.tab8 : rtab .any (opsOf Try.f9 8) = partitalaw16_SmfEnds.T8 := by kernel_rfl
theorem partitalaw16_SmfEnds.bits8 : waitsOk partitalaw16_SmfEnds.T8.2 partitalaw16_SmfEnds.B8 = true := by kernel_rfl
def partitalaw16_SmfEnds.T11 : Bool × List (List Nat × List Nat) := (true, [([], []), ([0], [0]), ([], []), ([], []), ([], []), ([3, 4], [3, 4]), ([5], [5]), ([6], []), ([7], [7]), ([6, 8, 7], [6, 8]), ([], []), ([], []), ([10, 11], [10, 11]), ([9, 12, 9], [9, 12]), ([1, 2, 0, 1, 2, 3, 4, 5, 6, 7, 8, 9, 10, 11, 12, 13], [1, 2]), ([14, 13, 13, 0, 1, 2, 3, 4, 5, 6, 7, 8, 9, 10, 11, 12, 13], [13, 14])])
def partitalaw16_SmfEnds.B11 : List Nat := [0, 1, 0, 0, 0, 24, 56, 120, 248, 504, 0, 0, 3072, 8184, 16383, 32767]
theorem partitalaw16_SmfEnds.tab11 : rtab .any (opsOf Try.f9 11) = partitalaw16_SmfEnds.T11 := by kernel_rfl
theorem partitalaw16_SmfEnds.bits11 : waitsOk partitalaw16_SmfEnds.T11.2 partitalaw16_SmfEnds.B11 = true := by kernel_rfl
set_option maxHeartbeats 8000000 in
set_option maxRecDepth 100000 in
theorem partitalaw16_SmfEnds.calls (k : Nat) (a0_0 : Int) (a0_1 : Int) (A0_2 : Option Addr) (c0_2 : Nat) (l0_2 : List (List (S28))) (a1 : Int) (a2 : Int) (r : Bool) (w : World) (hr0_2 : Kd.C (Kd.slice 28 k28) w A0_2 l0_2.length l0_2) (hc0_2 : l0_2.length ≤ c0_2) (h : partitalaw16_SmfEnds.f k a0_0 a0_1 l0_2 a1 a2 = some r) :
    Calls Try.prog 9 #[.agg #[.int .i64 a0_0, .int .i64 a0_1, .slice A0_2 l0_2.length c0_2], .int .u8 a1, .int .u8 a2] w fun e w' => e = .returned (.bool r) ∧ Below w.heap.size w w' := by
  have hu24 := Try.underlying24
  have HR0_2 := Aside0.mk hr0_2
  have HC0_2 := Aside0.mk hc0_2
  clear hr0_2 hc0_2
  have HB := Aside0.mk (Below.refl w.heap.size w)
  have H := h
  unfold partitalaw16_SmfEnds.f at H
  clear h
  replace H := Option.bind_eq_some_iff.mp H
  obtain ⟨t102, A40, H⟩ := H
  try dsimp -simprocs only at H
  have A4 := Aside0.mk A40
  clear A40
  by_cases c5 : t102 = true
  rotate_left
  · replace c5 := Bool.eq_false_iff.mpr c5
    subst c5
    have H1 : (some false) = some r := by rw [if_neg (show ¬ (false = true) by decide)] at H; exact H
    clear H
    have H := H1
    clear H1
    obtain rfl := Option.some.inj H
    go_enter Try.func9, Try.ntmps9
    go_wp2_with (first | ((with_reducible refine gate_dst (N := 3) rfl ?_); refine box_event ?hg (N := 3) ?hd (cs := #[.int .i64 a0_0, .int .i64 a0_1, .slice A0_2 l0_2.length c0_2]) (t := 24) ?hr ?_; (case hd => rfl); (case hg => rfl); (case hr => exact qq9); intro gb101 hg w103 hbox hb; have BK101 := Aside0.mk (hbox); have GW101 := Aside0.mk ((qqa : w.heap.size ≤ gb101)); have GE101 := Aside0.mk ((qqa : w.heap.size ≤ gb101)); replace HB := Aside0.mk (below_step (qB HB.out) hb); clear hb hbox hg) | ((with_reducible refine gate_callee (f := 11) rfl ?_); refine goesL_ (some 25) rfl rfl Try.func11 (by kernel_rfl) rfl #[] rfl qq0 ?_; (with_reducible refine (partitalaw16_examples.calls k  false _ A4.out).mono ?_); rintro e w104 ⟨rfl, hb⟩; refine ⟨_, rfl, ?_⟩; replace BK101 := Aside0.mk (blk_below (bq BK101.out) hb); replace HB := Aside0.mk (below_step (qS1 GE101 HB.out) hb); (try clear hb); (try clear hb2); (try clear hk); (try clear hi)))
    go_ret
    exact ⟨qq3, qS1 GE101 HB.out⟩
  subst c5
  have H1 : ((partitalaw16_File.f k a0_0 a0_1 l0_2).bind fun bt103 => (if (bt103.2.2.length : Int) = 0 then (none) else (if 0 ≤ (Int.tmod (wrap64 (a1)) (bt103.2.2.length : Int)) then (if (Int.tmod (wrap64 (a1)) (bt103.2.2.length : Int)) < (bt103.2.2.length : Int) then (if ([] : List (List (S28))).length + bt103.2.2.length < 5864062014805 then ((some (([] : List (List (S28))) ++ bt103.2.2 : List (List (S28)))).bind fun y110 => (if 0 ≤ (wrap64 (((rd_L3 bt103.2.2 (Int.tmod (wrap64 (a1)) (bt103.2.2.length : Int))).length : Int) - 1)) then (if (wrap64 (((rd_L3 bt103.2.2 (Int.tmod (wrap64 (a1)) (bt103.2.2.length : Int))).length : Int) - 1)) ≤ ((rd_L3 bt103.2.2 (Int.tmod (wrap64 (a1)) (bt103.2.2.length : Int))).length : Int) then (if (Int.tmod (wrap64 (a1)) (bt103.2.2.length : Int)) < (y110.length : Int) then ((some (y110.set ((Int.tmod (wrap64 (a1)) (bt103.2.2.length : Int)) : Int).toNat ((rd_L3 bt103.2.2 (Int.tmod (wrap64 (a1)) (bt103.2.2.length : Int))).take ((wrap64 (((rd_L3 bt103.2.2 (Int.tmod (wrap64 (a1)) (bt103.2.2.length : Int))).length : Int) - 1)) : Int).toNat) : List (List (S28)))).bind fun y119 => ((smf_Check.f k bt103.1 bt103.2.1 y119).bind fun bt120 => (if ((rd_L3 bt103.2.2 (Int.tmod (wrap64 (a1)) (bt103.2.2.length : Int))).length : Int) = 0 then (none) else (if 0 ≤ (Int.tmod (wrap64 (a2)) ((rd_L3 bt103.2.2 (Int.tmod (wrap64 (a1)) (bt103.2.2.length : Int))).length : Int)) then (if (Int.tmod (wrap64 (a2)) ((rd_L3 bt103.2.2 (Int.tmod (wrap64 (a1)) (bt103.2.2.length : Int))).length : Int)) ≤ ((rd_L3 bt103.2.2 (Int.tmod (wrap64 (a1)) (bt103.2.2.length : Int))).length : Int) then ((some ((rd_L3 bt103.2.2 (Int.tmod (wrap64 (a1)) (bt103.2.2.length : Int))).take ((Int.tmod (wrap64 (a2)) ((rd_L3 bt103.2.2 (Int.tmod (wrap64 (a1)) (bt103.2.2.length : Int))).length : Int)) : Int).toNat : List (S28))).bind fun y122 => (if ([] : List (S28)).length + y122.length < 2513169434916 then ((some (([] : List (S28)) ++ y122 : List (S28))).bind fun y127 => ((partitalaw16_End.f 0).bind fun bt130 => (if y127.length < 2513169434916 then ((some (y127 ++ [(⟨bt130.1, bt130.2.1, bt130.2.2.1, bt130.2.2.2.1, bt130.2.2.2.2.1, bt130.2.2.2.2.2⟩ : S28)] : List (S28))).bind fun y136 => ((some ((rd_L3 bt103.2.2 (Int.tmod (wrap64 (a1)) (bt103.2.2.length : Int))).drop ((Int.tmod (wrap64 (a2)) ((rd_L3 bt103.2.2 (Int.tmod (wrap64 (a1)) (bt103.2.2.length : Int))).length : Int)) : Int).toNat : List (S28))).bind fun y139 => (if y136.length + y139.length < 2513169434916 then ((some (y119.set ((Int.tmod (wrap64 (a1)) (bt103.2.2.length : Int)) : Int).toNat (y136 ++ y139) : List (List (S28)))).bind fun y147 => ((smf_Check.f k bt103.1 bt103.2.1 y147).bind fun bt148 => ((smf_Print.f k bt103.1 bt103.2.1 y147).bind fun bt150 => ((wire_Encode.f k (rd_L3 y147 (Int.tmod (wrap64 (a1)) (bt103.2.2.length : Int)))).bind fun bt153 => ((partitalaw16_big.f 6).bind fun t155 => (if 4 + t155.size ≤ 9223372036854775807 then (if ((⟨#[77, 84, 104, 100]⟩ : ByteArray) ++ t155).size + 6 ≤ 9223372036854775807 then (if (((⟨#[77, 84, 104, 100]⟩ : ByteArray) ++ t155) ++ (⟨#[0, 0, 0, 1, 0, 96]⟩ : ByteArray)).size + 4 ≤ 9223372036854775807 then ((partitalaw16_big.f (bt153.1.size : Int)).bind fun t156 => (if ((((⟨#[77, 84, 104, 100]⟩ : ByteArray) ++ t155) ++ (⟨#[0, 0, 0, 1, 0, 96]⟩ : ByteArray)) ++ (⟨#[77, 84, 114, 107]⟩ : ByteArray)).size + t156.size ≤ 9223372036854775807 then (if (((((⟨#[77, 84, 104, 100]⟩ : ByteArray) ++ t155) ++ (⟨#[0, 0, 0, 1, 0, 96]⟩ : ByteArray)) ++ (⟨#[77, 84, 114, 107]⟩ : ByteArray)) ++ t156).size + bt153.1.size ≤ 9223372036854775807 then ((smf_Parse.f k ((((((⟨#[77, 84, 104, 100]⟩ : ByteArray) ++ t155) ++ (⟨#[0, 0, 0, 1, 0, 96]⟩ : ByteArray)) ++ (⟨#[77, 84, 114, 107]⟩ : ByteArray)) ++ t156) ++ bt153.1)).bind fun bt157 => (if bt120.2 = 160 then (if bt120.1 = (Int.tmod (wrap64 (a1)) (bt103.2.2.length : Int)) then (if bt148.2 = 160 then (if bt148.1 = (Int.tmod (wrap64 (a1)) (bt103.2.2.length : Int)) then (if bt150.2 = 160 then (if bt150.1.toList = ([] : List UInt8) then (if bt153.2 = 0 then (if bt157.2.2.2.2 = 160 then (if bt157.2.2.2.1 = 22 then ((smf_Same.f k bt157.1 bt157.2.1 bt157.2.2.1 0 0 ([] : List (List (S28)))).bind fun t165 => (some t165)) else (none)) else (none)) else (none)) else (none)) else (none)) else (none)) else (none)) else (none)) else (none))) else (none)) else (none))) else (none)) else (none)) else (none))))))) else (none)))) else (none)))) else (none))) else (none)) else (none))))) else (none)) else (none)) else (none))) else (none)) else (none)) else (none)))) = some r := by rw [if_pos rfl] at H; exact H
  clear H
  have H := H1
  clear H1
  replace H := Option.bind_eq_some_iff.mp H
  obtain ⟨⟨t103, t104, t105⟩, A60, H⟩ := H
  try dsimp -simprocs only at H
  have A6 := Aside0.mk A60
  clear A60
  by_cases c7 : (t105.length : Int) = 0
  · rw [if_pos c7] at H
    exact absurd H (by simp)
  rw [if_neg c7] at H
  have c7b0 : ((t105.length : Int) == 0) = false := beq_eq_false_iff_ne.mpr c7
  have c7b1 : ((t105.length : Int) != 0) = true := bne_iff_ne.mpr c7
  have c7b2 : ¬ (t105 = []) := fun h_ => c7 (by rw [h_]; rfl)
  obtain ⟨ji8, hji8⟩ : ∃ j_ : Int, (Int.tmod (wrap64 (a1)) (t105.length : Int)) = j_ := ⟨_, rfl⟩
  replace H : (if 0 ≤ (ji8) then (if (ji8) < (t105.length : Int) then (if ([] : List (List (S28))).length + t105.length < 5864062014805 then ((some (([] : List (List (S28))) ++ t105 : List (List (S28)))).bind fun y110 => (if 0 ≤ (wrap64 (((rd_L3 t105 (ji8)).length : Int) - 1)) then (if (wrap64 (((rd_L3 t105 (ji8)).length : Int) - 1)) ≤ ((rd_L3 t105 (ji8)).length : Int) then (if (ji8) < (y110.length : Int) then ((some (y110.set ((ji8) : Int).toNat ((rd_L3 t105 (ji8)).take ((wrap64 (((rd_L3 t105 (ji8)).length : Int) - 1)) : Int).toNat) : List (List (S28)))).bind fun y119 => ((smf_Check.f k t103 t104 y119).bind fun bt120 => (if ((rd_L3 t105 (ji8)).length : Int) = 0 then (none) else (if 0 ≤ (Int.tmod (wrap64 (a2)) ((rd_L3 t105 (ji8)).length : Int)) then (if (Int.tmod (wrap64 (a2)) ((rd_L3 t105 (ji8)).length : Int)) ≤ ((rd_L3 t105 (ji8)).length : Int) then ((some ((rd_L3 t105 (ji8)).take ((Int.tmod (wrap64 (a2)) ((rd_L3 t105 (ji8)).length : Int)) : Int).toNat : List (S28))).bind fun y122 => (if ([] : List (S28)).length + y122.length < 2513169434916 then ((some (([] : List (S28)) ++ y122 : List (S28))).bind fun y127 => ((partitalaw16_End.f 0).bind fun bt130 => (if y127.length < 2513169434916 then ((some (y127 ++ [(⟨bt130.1, bt130.2.1, bt130.2.2.1, bt130.2.2.2.1, bt130.2.2.2.2.1, bt130.2.2.2.2.2⟩ : S28)] : List (S28))).bind fun y136 => ((some ((rd_L3 t105 (ji8)).drop ((Int.tmod (wrap64 (a2)) ((rd_L3 t105 (ji8)).length : Int)) : Int).toNat : List (S28))).bind fun y139 => (if y136.length + y139.length < 2513169434916 then ((some (y119.set ((ji8) : Int).toNat (y136 ++ y139) : List (List (S28)))).bind fun y147 => ((smf_Check.f k t103 t104 y147).bind fun bt148 => ((smf_Print.f k t103 t104 y147).bind fun bt150 => ((wire_Encode.f k (rd_L3 y147 (ji8))).bind fun bt153 => ((partitalaw16_big.f 6).bind fun t155 => (if 4 + t155.size ≤ 9223372036854775807 then (if ((⟨#[77, 84, 104, 100]⟩ : ByteArray) ++ t155).size + 6 ≤ 9223372036854775807 then (if (((⟨#[77, 84, 104, 100]⟩ : ByteArray) ++ t155) ++ (⟨#[0, 0, 0, 1, 0, 96]⟩ : ByteArray)).size + 4 ≤ 9223372036854775807 then ((partitalaw16_big.f (bt153.1.size : Int)).bind fun t156 => (if ((((⟨#[77, 84, 104, 100]⟩ : ByteArray) ++ t155) ++ (⟨#[0, 0, 0, 1, 0, 96]⟩ : ByteArray)) ++ (⟨#[77, 84, 114, 107]⟩ : ByteArray)).size + t156.size ≤ 9223372036854775807 then (if (((((⟨#[77, 84, 104, 100]⟩ : ByteArray) ++ t155) ++ (⟨#[0, 0, 0, 1, 0, 96]⟩ : ByteArray)) ++ (⟨#[77, 84, 114, 107]⟩ : ByteArray)) ++ t156).size + bt153.1.size ≤ 9223372036854775807 then ((smf_Parse.f k ((((((⟨#[77, 84, 104, 100]⟩ : ByteArray) ++ t155) ++ (⟨#[0, 0, 0, 1, 0, 96]⟩ : ByteArray)) ++ (⟨#[77, 84, 114, 107]⟩ : ByteArray)) ++ t156) ++ bt153.1)).bind fun bt157 => (if bt120.2 = 160 then (if bt120.1 = (ji8) then (if bt148.2 = 160 then (if bt148.1 = (ji8) then (if bt150.2 = 160 then (if bt150.1.toList = ([] : List UInt8) then (if bt153.2 = 0 then (if bt157.2.2.2.2 = 160 then (if bt157.2.2.2.1 = 22 then ((smf_Same.f k bt157.1 bt157.2.1 bt157.2.2.1 0 0 ([] : List (List (S28)))).bind fun t165 => (some t165)) else (none)) else (none)) else (none)) else (none)) else (none)) else (none)) else (none)) else (none)) else (none))) else (none)) else (none))) else (none)) else (none)) else (none))))))) else (none)))) else (none)))) else (none))) else (none)) else (none))))) else (none)) else (none)) else (none))) else (none)) else (none)) else (none)) = some r := by first | (rw [hji8] at H; exact H) | (simp only [hji8] at H ⊢; exact H)
  (try rw [hji8] at A4)
  (try rw [hji8] at A6)
  by_cases c9 : 0 ≤ (ji8)
  rotate_left
  · rw [if_neg c9] at H
    exact absurd H (by simp)
  rw [if_pos c9] at H
  have c9b0 : decide (0 ≤ (ji8)) = true := decide_eq_true c9
  clear c9
  by_cases c10 : (ji8) < (t105.length : Int)
  rotate_left
  · rw [if_neg c10] at H
    exact absurd H (by simp)
  rw [if_pos c10] at H
  have c10b0 : decide ((ji8) < (t105.length : Int)) = true := decide_eq_true c10
  clear c10
  by_cases c11 : ([] : List (List (S28))).length + t105.length < 5864062014805
  rotate_left
  · rw [if_neg c11] at H
    exact absurd H (by simp)
  rw [if_pos c11] at H
  have LMc11 := Aside0.mk c11
  clear c11
  obtain ⟨y110, hy110⟩ : ∃ y_ : List (List (S28)), y_ = (([] : List (List (S28))) ++ t105) := ⟨_, rfl⟩
  replace H : (if 0 ≤ (wrap64 (((rd_L3 t105 (ji8)).length : Int) - 1)) then (if (wrap64 (((rd_L3 t105 (ji8)).length : Int) - 1)) ≤ ((rd_L3 t105 (ji8)).length : Int) then (if (ji8) < (y110.length : Int) then ((some (y110.set ((ji8) : Int).toNat ((rd_L3 t105 (ji8)).take ((wrap64 (((rd_L3 t105 (ji8)).length : Int) - 1)) : Int).toNat) : List (List (S28)))).bind fun y119 => ((smf_Check.f k t103 t104 y119).bind fun bt120 => (if ((rd_L3 t105 (ji8)).length : Int) = 0 then (none) else (if 0 ≤ (Int.tmod (wrap64 (a2)) ((rd_L3 t105 (ji8)).length : Int)) then (if (Int.tmod (wrap64 (a2)) ((rd_L3 t105 (ji8)).length : Int)) ≤ ((rd_L3 t105 (ji8)).length : Int) then ((some ((rd_L3 t105 (ji8)).take ((Int.tmod (wrap64 (a2)) ((rd_L3 t105 (ji8)).length : Int)) : Int).toNat : List (S28))).bind fun y122 => (if ([] : List (S28)).length + y122.length < 2513169434916 then ((some (([] : List (S28)) ++ y122 : List (S28))).bind fun y127 => ((partitalaw16_End.f 0).bind fun bt130 => (if y127.length < 2513169434916 then ((some (y127 ++ [(⟨bt130.1, bt130.2.1, bt130.2.2.1, bt130.2.2.2.1, bt130.2.2.2.2.1, bt130.2.2.2.2.2⟩ : S28)] : List (S28))).bind fun y136 => ((some ((rd_L3 t105 (ji8)).drop ((Int.tmod (wrap64 (a2)) ((rd_L3 t105 (ji8)).length : Int)) : Int).toNat : List (S28))).bind fun y139 => (if y136.length + y139.length < 2513169434916 then ((some (y119.set ((ji8) : Int).toNat (y136 ++ y139) : List (List (S28)))).bind fun y147 => ((smf_Check.f k t103 t104 y147).bind fun bt148 => ((smf_Print.f k t103 t104 y147).bind fun bt150 => ((wire_Encode.f k (rd_L3 y147 (ji8))).bind fun bt153 => ((partitalaw16_big.f 6).bind fun t155 => (if 4 + t155.size ≤ 9223372036854775807 then (if ((⟨#[77, 84, 104, 100]⟩ : ByteArray) ++ t155).size + 6 ≤ 9223372036854775807 then (if (((⟨#[77, 84, 104, 100]⟩ : ByteArray) ++ t155) ++ (⟨#[0, 0, 0, 1, 0, 96]⟩ : ByteArray)).size + 4 ≤ 9223372036854775807 then ((partitalaw16_big.f (bt153.1.size : Int)).bind fun t156 => (if ((((⟨#[77, 84, 104, 100]⟩ : ByteArray) ++ t155) ++ (⟨#[0, 0, 0, 1, 0, 96]⟩ : ByteArray)) ++ (⟨#[77, 84, 114, 107]⟩ : ByteArray)).size + t156.size ≤ 9223372036854775807 then (if (((((⟨#[77, 84, 104, 100]⟩ : ByteArray) ++ t155) ++ (⟨#[0, 0, 0, 1, 0, 96]⟩ : ByteArray)) ++ (⟨#[77, 84, 114, 107]⟩ : ByteArray)) ++ t156).size + bt153.1.size ≤ 9223372036854775807 then ((smf_Parse.f k ((((((⟨#[77, 84, 104, 100]⟩ : ByteArray) ++ t155) ++ (⟨#[0, 0, 0, 1, 0, 96]⟩ : ByteArray)) ++ (⟨#[77, 84, 114, 107]⟩ : ByteArray)) ++ t156) ++ bt153.1)).bind fun bt157 => (if bt120.2 = 160 then (if bt120.1 = (ji8) then (if bt148.2 = 160 then (if bt148.1 = (ji8) then (if bt150.2 = 160 then (if bt150.1.toList = ([] : List UInt8) then (if bt153.2 = 0 then (if bt157.2.2.2.2 = 160 then (if bt157.2.2.2.1 = 22 then ((smf_Same.f k bt157.1 bt157.2.1 bt157.2.2.1 0 0 ([] : List (List (S28)))).bind fun t165 => (some t165)) else (none)) else (none)) else (none)) else (none)) else (none)) else (none)) else (none)) else (none)) else (none))) else (none)) else (none))) else (none)) else (none)) else (none))))))) else (none)))) else (none)))) else (none))) else (none)) else (none))))) else (none)) else (none)) else (none)) = some r := by first | (rw [hy110]; with_reducible exact H) | (have H2_ := (Option.bind_some _ _).symm.trans H; rw [hy110]; with_reducible exact H2_) | (have H2_ := (Option.bind_some _ _).symm.trans H; with_reducible exact H2_) | with_reducible exact H | (rw [hy110]; exact H) | exact H
  have Ny110 := Aside0.mk hy110
  clear hy110
  obtain ⟨ji12, hji12⟩ : ∃ j_ : Int, (wrap64 (((rd_L3 t105 (ji8)).length : Int) - 1)) = j_ := ⟨_, rfl⟩
  replace H : (if 0 ≤ (ji12) then (if (ji12) ≤ ((rd_L3 t105 (ji8)).length : Int) then (if (ji8) < (y110.length : Int) then ((some (y110.set ((ji8) : Int).toNat ((rd_L3 t105 (ji8)).take ((ji12) : Int).toNat) : List (List (S28)))).bind fun y119 => ((smf_Check.f k t103 t104 y119).bind fun bt120 => (if ((rd_L3 t105 (ji8)).length : Int) = 0 then (none) else (if 0 ≤ (Int.tmod (wrap64 (a2)) ((rd_L3 t105 (ji8)).length : Int)) then (if (Int.tmod (wrap64 (a2)) ((rd_L3 t105 (ji8)).length : Int)) ≤ ((rd_L3 t105 (ji8)).length : Int) then ((some ((rd_L3 t105 (ji8)).take ((Int.tmod (wrap64 (a2)) ((rd_L3 t105 (ji8)).length : Int)) : Int).toNat : List (S28))).bind fun y122 => (if ([] : List (S28)).length + y122.length < 2513169434916 then ((some (([] : List (S28)) ++ y122 : List (S28))).bind fun y127 => ((partitalaw16_End.f 0).bind fun bt130 => (if y127.length < 2513169434916 then ((some (y127 ++ [(⟨bt130.1, bt130.2.1, bt130.2.2.1, bt130.2.2.2.1, bt130.2.2.2.2.1, bt130.2.2.2.2.2⟩ : S28)] : List (S28))).bind fun y136 => ((some ((rd_L3 t105 (ji8)).drop ((Int.tmod (wrap64 (a2)) ((rd_L3 t105 (ji8)).length : Int)) : Int).toNat : List (S28))).bind fun y139 => (if y136.length + y139.length < 2513169434916 then ((some (y119.set ((ji8) : Int).toNat (y136 ++ y139) : List (List (S28)))).bind fun y147 => ((smf_Check.f k t103 t104 y147).bind fun bt148 => ((smf_Print.f k t103 t104 y147).bind fun bt150 => ((wire_Encode.f k (rd_L3 y147 (ji8))).bind fun bt153 => ((partitalaw16_big.f 6).bind fun t155 => (if 4 + t155.size ≤ 9223372036854775807 then (if ((⟨#[77, 84, 104, 100]⟩ : ByteArray) ++ t155).size + 6 ≤ 9223372036854775807 then (if (((⟨#[77, 84, 104, 100]⟩ : ByteArray) ++ t155) ++ (⟨#[0, 0, 0, 1, 0, 96]⟩ : ByteArray)).size + 4 ≤ 9223372036854775807 then ((partitalaw16_big.f (bt153.1.size : Int)).bind fun t156 => (if ((((⟨#[77, 84, 104, 100]⟩ : ByteArray) ++ t155) ++ (⟨#[0, 0, 0, 1, 0, 96]⟩ : ByteArray)) ++ (⟨#[77, 84, 114, 107]⟩ : ByteArray)).size + t156.size ≤ 9223372036854775807 then (if (((((⟨#[77, 84, 104, 100]⟩ : ByteArray) ++ t155) ++ (⟨#[0, 0, 0, 1, 0, 96]⟩ : ByteArray)) ++ (⟨#[77, 84, 114, 107]⟩ : ByteArray)) ++ t156).size + bt153.1.size ≤ 9223372036854775807 then ((smf_Parse.f k ((((((⟨#[77, 84, 104, 100]⟩ : ByteArray) ++ t155) ++ (⟨#[0, 0, 0, 1, 0, 96]⟩ : ByteArray)) ++ (⟨#[77, 84, 114, 107]⟩ : ByteArray)) ++ t156) ++ bt153.1)).bind fun bt157 => (if bt120.2 = 160 then (if bt120.1 = (ji8) then (if bt148.2 = 160 then (if bt148.1 = (ji8) then (if bt150.2 = 160 then (if bt150.1.toList = ([] : List UInt8) then (if bt153.2 = 0 then (if bt157.2.2.2.2 = 160 then (if bt157.2.2.2.1 = 22 then ((smf_Same.f k bt157.1 bt157.2.1 bt157.2.2.1 0 0 ([] : List (List (S28)))).bind fun t165 => (some t165)) else (none)) else (none)) else (none)) else (none)) else (none)) else (none)) else (none)) else (none)) else (none))) else (none)) else (none))) else (none)) else (none)) else (none))))))) else (none)))) else (none)))) else (none))) else (none)) else (none))))) else (none)) else (none)) else (none)) = some r := by first | (rw [hji12] at H; exact H) | (simp only [hji12] at H ⊢; exact H)
  (try rw [hji12] at A4)
  (try rw [hji12] at A6)
  have hji12w : (IntKind.i64.wrap (((rd_L3 t105 (ji8)).length : Int) - 1)) = ji12 := (i64_w _).trans hji12
  by_cases c13 : 0 ≤ (ji12)
  rotate_left
  · rw [if_neg c13] at H
    exact absurd H (by simp)
  rw [if_pos c13] at H
  have c13b0 := eq_true c13
  have c13b1 : decide (0 ≤ (ji12)) = true := decide_eq_true c13
  clear c13
  by_cases c14 : (ji12) ≤ ((rd_L3 t105 (ji8)).length : Int)
  rotate_left
  · rw [if_neg c14] at H
    exact absurd H (by simp)
  rw [if_pos c14] at H
  have c14b0 := eq_true c14
  have c14b1 : decide ((ji12) ≤ ((rd_L3 t105 (ji8)).length : Int)) = true := decide_eq_true c14
  clear c14
  obtain ⟨y114, hy114⟩ : ∃ y_ : List (S28), y_ = ((rd_L3 t105 (ji8)).take ((ji12) : Int).toNat) := ⟨_, rfl⟩
  replace H : (if (ji8) < (y110.length : Int) then ((some (y110.set ((ji8) : Int).toNat y114 : List (List (S28)))).bind fun y119 => ((smf_Check.f k t103 t104 y119).bind fun bt120 => (if ((rd_L3 t105 (ji8)).length : Int) = 0 then (none) else (if 0 ≤ (Int.tmod (wrap64 (a2)) ((rd_L3 t105 (ji8)).length : Int)) then (if (Int.tmod (wrap64 (a2)) ((rd_L3 t105 (ji8)).length : Int)) ≤ ((rd_L3 t105 (ji8)).length : Int) then ((some ((rd_L3 t105 (ji8)).take ((Int.tmod (wrap64 (a2)) ((rd_L3 t105 (ji8)).length : Int)) : Int).toNat : List (S28))).bind fun y122 => (if ([] : List (S28)).length + y122.length < 2513169434916 then ((some (([] : List (S28)) ++ y122 : List (S28))).bind fun y127 => ((partitalaw16_End.f 0).bind fun bt130 => (if y127.length < 2513169434916 then ((some (y127 ++ [(⟨bt130.1, bt130.2.1, bt130.2.2.1, bt130.2.2.2.1, bt130.2.2.2.2.1, bt130.2.2.2.2.2⟩ : S28)] : List (S28))).bind fun y136 => ((some ((rd_L3 t105 (ji8)).drop ((Int.tmod (wrap64 (a2)) ((rd_L3 t105 (ji8)).length : Int)) : Int).toNat : List (S28))).bind fun y139 => (if y136.length + y139.length < 2513169434916 then ((some (y119.set ((ji8) : Int).toNat (y136 ++ y139) : List (List (S28)))).bind fun y147 => ((smf_Check.f k t103 t104 y147).bind fun bt148 => ((smf_Print.f k t103 t104 y147).bind fun bt150 => ((wire_Encode.f k (rd_L3 y147 (ji8))).bind fun bt153 => ((partitalaw16_big.f 6).bind fun t155 => (if 4 + t155.size ≤ 9223372036854775807 then (if ((⟨#[77, 84, 104, 100]⟩ : ByteArray) ++ t155).size + 6 ≤ 9223372036854775807 then (if (((⟨#[77, 84, 104, 100]⟩ : ByteArray) ++ t155) ++ (⟨#[0, 0, 0, 1, 0, 96]⟩ : ByteArray)).size + 4 ≤ 9223372036854775807 then ((partitalaw16_big.f (bt153.1.size : Int)).bind fun t156 => (if ((((⟨#[77, 84, 104, 100]⟩ : ByteArray) ++ t155) ++ (⟨#[0, 0, 0, 1, 0, 96]⟩ : ByteArray)) ++ (⟨#[77, 84, 114, 107]⟩ : ByteArray)).size + t156.size ≤ 9223372036854775807 then (if (((((⟨#[77, 84, 104, 100]⟩ : ByteArray) ++ t155) ++ (⟨#[0, 0, 0, 1, 0, 96]⟩ : ByteArray)) ++ (⟨#[77, 84, 114, 107]⟩ : ByteArray)) ++ t156).size + bt153.1.size ≤ 9223372036854775807 then ((smf_Parse.f k ((((((⟨#[77, 84, 104, 100]⟩ : ByteArray) ++ t155) ++ (⟨#[0, 0, 0, 1, 0, 96]⟩ : ByteArray)) ++ (⟨#[77, 84, 114, 107]⟩ : ByteArray)) ++ t156) ++ bt153.1)).bind fun bt157 => (if bt120.2 = 160 then (if bt120.1 = (ji8) then (if bt148.2 = 160 then (if bt148.1 = (ji8) then (if bt150.2 = 160 then (if bt150.1.toList = ([] : List UInt8) then (if bt153.2 = 0 then (if bt157.2.2.2.2 = 160 then (if bt157.2.2.2.1 = 22 then ((smf_Same.f k bt157.1 bt157.2.1 bt157.2.2.1 0 0 ([] : List (List (S28)))).bind fun t165 => (some t165)) else (none)) else (none)) else (none)) else (none)) else (none)) else (none)) else (none)) else (none)) else (none))) else (none)) else (none))) else (none)) else (none)) else (none))))))) else (none)))) else (none)))) else (none))) else (none)) else (none))))) else (none)) = some r := by first | (rw [hy114]; with_reducible exact H) | (have H2_ := (Option.bind_some _ _).symm.trans H; rw [hy114]; with_reducible exact H2_) | (have H2_ := (Option.bind_some _ _).symm.trans H; with_reducible exact H2_) | with_reducible exact H | (rw [hy114]; exact H) | exact H
  have Ny114 := Aside0.mk hy114
  clear hy114
  by_cases c15 : (ji8) < (y110.length : Int)
  rotate_left
  · rw [if_neg c15] at H
    exact absurd H (by simp)
  rw [if_pos c15] at H
  have c15b0 : decide ((ji8) < (y110.length : Int)) = true := decide_eq_true c15
  clear c15
  obtain ⟨y119, hy119⟩ : ∃ y_ : List (List (S28)), y_ = (y110.set ((ji8) : Int).toNat y114) := ⟨_, rfl⟩
  replace H : ((smf_Check.f k t103 t104 y119).bind fun bt120 => (if ((rd_L3 t105 (ji8)).length : Int) = 0 then (none) else (if 0 ≤ (Int.tmod (wrap64 (a2)) ((rd_L3 t105 (ji8)).length : Int)) then (if (Int.tmod (wrap64 (a2)) ((rd_L3 t105 (ji8)).length : Int)) ≤ ((rd_L3 t105 (ji8)).length : Int) then ((some ((rd_L3 t105 (ji8)).take ((Int.tmod (wrap64 (a2)) ((rd_L3 t105 (ji8)).length : Int)) : Int).toNat : List (S28))).bind fun y122 => (if ([] : List (S28)).length + y122.length < 2513169434916 then ((some (([] : List (S28)) ++ y122 : List (S28))).bind fun y127 => ((partitalaw16_End.f 0).bind fun bt130 => (if y127.length < 2513169434916 then ((some (y127 ++ [(⟨bt130.1, bt130.2.1, bt130.2.2.1, bt130.2.2.2.1, bt130.2.2.2.2.1, bt130.2.2.2.2.2⟩ : S28)] : List (S28))).bind fun y136 => ((some ((rd_L3 t105 (ji8)).drop ((Int.tmod (wrap64 (a2)) ((rd_L3 t105 (ji8)).length : Int)) : Int).toNat : List (S28))).bind fun y139 => (if y136.length + y139.length < 2513169434916 then ((some (y119.set ((ji8) : Int).toNat (y136 ++ y139) : List (List (S28)))).bind fun y147 => ((smf_Check.f k t103 t104 y147).bind fun bt148 => ((smf_Print.f k t103 t104 y147).bind fun bt150 => ((wire_Encode.f k (rd_L3 y147 (ji8))).bind fun bt153 => ((partitalaw16_big.f 6).bind fun t155 => (if 4 + t155.size ≤ 9223372036854775807 then (if ((⟨#[77, 84, 104, 100]⟩ : ByteArray) ++ t155).size + 6 ≤ 9223372036854775807 then (if (((⟨#[77, 84, 104, 100]⟩ : ByteArray) ++ t155) ++ (⟨#[0, 0, 0, 1, 0, 96]⟩ : ByteArray)).size + 4 ≤ 9223372036854775807 then ((partitalaw16_big.f (bt153.1.size : Int)).bind fun t156 => (if ((((⟨#[77, 84, 104, 100]⟩ : ByteArray) ++ t155) ++ (⟨#[0, 0, 0, 1, 0, 96]⟩ : ByteArray)) ++ (⟨#[77, 84, 114, 107]⟩ : ByteArray)).size + t156.size ≤ 9223372036854775807 then (if (((((⟨#[77, 84, 104, 100]⟩ : ByteArray) ++ t155) ++ (⟨#[0, 0, 0, 1, 0, 96]⟩ : ByteArray)) ++ (⟨#[77, 84, 114, 107]⟩ : ByteArray)) ++ t156).size + bt153.1.size ≤ 9223372036854775807 then ((smf_Parse.f k ((((((⟨#[77, 84, 104, 100]⟩ : ByteArray) ++ t155) ++ (⟨#[0, 0, 0, 1, 0, 96]⟩ : ByteArray)) ++ (⟨#[77, 84, 114, 107]⟩ : ByteArray)) ++ t156) ++ bt153.1)).bind fun bt157 => (if bt120.2 = 160 then (if bt120.1 = (ji8) then (if bt148.2 = 160 then (if bt148.1 = (ji8) then (if bt150.2 = 160 then (if bt150.1.toList = ([] : List UInt8) then (if bt153.2 = 0 then (if bt157.2.2.2.2 = 160 then (if bt157.2.2.2.1 = 22 then ((smf_Same.f k bt157.1 bt157.2.1 bt157.2.2.1 0 0 ([] : List (List (S28)))).bind fun t165 => (some t165)) else (none)) else (none)) else (none)) else (none)) else (none)) else (none)) else (none)) else (none)) else (none))) else (none)) else (none))) else (none)) else (none)) else (none))))))) else (none)))) else (none)))) else (none))) else (none)) else (none)))) = some r := by first | (rw [hy119]; with_reducible exact H) | (have H2_ := (Option.bind_some _ _).symm.trans H; rw [hy119]; with_reducible exact H2_) | (have H2_ := (Option.bind_some _ _).symm.trans H; with_reducible exact H2_) | with_reducible exact H | (rw [hy119]; exact H) | exact H
  have Ny119 := Aside0.mk hy119
  clear hy119
  replace H := Option.bind_eq_some_iff.mp H
  obtain ⟨⟨t120, t121⟩, A170, H⟩ := H
  try dsimp -simprocs only at H
  have A17 := Aside0.mk A170
  clear A170
  by_cases c18 : ((rd_L3 t105 (ji8)).length : Int) = 0
  · rw [if_pos c18] at H
    exact absurd H (by simp)
  rw [if_neg c18] at H
  have c18b0 : (((rd_L3 t105 (ji8)).length : Int) == 0) = false := beq_eq_false_iff_ne.mpr c18
  have c18b1 : (((rd_L3 t105 (ji8)).length : Int) != 0) = true := bne_iff_ne.mpr c18
  have c18b2 : ¬ ((rd_L3 t105 (ji8)) = []) := fun h_ => c18 (by rw [h_]; rfl)
  obtain ⟨ji19, hji19⟩ : ∃ j_ : Int, (Int.tmod (wrap64 (a2)) ((rd_L3 t105 (ji8)).length : Int)) = j_ := ⟨_, rfl⟩
  replace H : (if 0 ≤ (ji19) then (if (ji19) ≤ ((rd_L3 t105 (ji8)).length : Int) then ((some ((rd_L3 t105 (ji8)).take ((ji19) : Int).toNat : List (S28))).bind fun y122 => (if ([] : List (S28)).length + y122.length < 2513169434916 then ((some (([] : List (S28)) ++ y122 : List (S28))).bind fun y127 => ((partitalaw16_End.f 0).bind fun bt130 => (if y127.length < 2513169434916 then ((some (y127 ++ [(⟨bt130.1, bt130.2.1, bt130.2.2.1, bt130.2.2.2.1, bt130.2.2.2.2.1, bt130.2.2.2.2.2⟩ : S28)] : List (S28))).bind fun y136 => ((some ((rd_L3 t105 (ji8)).drop ((ji19) : Int).toNat : List (S28))).bind fun y139 => (if y136.length + y139.length < 2513169434916 then ((some (y119.set ((ji8) : Int).toNat (y136 ++ y139) : List (List (S28)))).bind fun y147 => ((smf_Check.f k t103 t104 y147).bind fun bt148 => ((smf_Print.f k t103 t104 y147).bind fun bt150 => ((wire_Encode.f k (rd_L3 y147 (ji8))).bind fun bt153 => ((partitalaw16_big.f 6).bind fun t155 => (if 4 + t155.size ≤ 9223372036854775807 then (if ((⟨#[77, 84, 104, 100]⟩ : ByteArray) ++ t155).size + 6 ≤ 9223372036854775807 then (if (((⟨#[77, 84, 104, 100]⟩ : ByteArray) ++ t155) ++ (⟨#[0, 0, 0, 1, 0, 96]⟩ : ByteArray)).size + 4 ≤ 9223372036854775807 then ((partitalaw16_big.f (bt153.1.size : Int)).bind fun t156 => (if ((((⟨#[77, 84, 104, 100]⟩ : ByteArray) ++ t155) ++ (⟨#[0, 0, 0, 1, 0, 96]⟩ : ByteArray)) ++ (⟨#[77, 84, 114, 107]⟩ : ByteArray)).size + t156.size ≤ 9223372036854775807 then (if (((((⟨#[77, 84, 104, 100]⟩ : ByteArray) ++ t155) ++ (⟨#[0, 0, 0, 1, 0, 96]⟩ : ByteArray)) ++ (⟨#[77, 84, 114, 107]⟩ : ByteArray)) ++ t156).size + bt153.1.size ≤ 9223372036854775807 then ((smf_Parse.f k ((((((⟨#[77, 84, 104, 100]⟩ : ByteArray) ++ t155) ++ (⟨#[0, 0, 0, 1, 0, 96]⟩ : ByteArray)) ++ (⟨#[77, 84, 114, 107]⟩ : ByteArray)) ++ t156) ++ bt153.1)).bind fun bt157 => (if t121 = 160 then (if t120 = (ji8) then (if bt148.2 = 160 then (if bt148.1 = (ji8) then (if bt150.2 = 160 then (if bt150.1.toList = ([] : List UInt8) then (if bt153.2 = 0 then (if bt157.2.2.2.2 = 160 then (if bt157.2.2.2.1 = 22 then ((smf_Same.f k bt157.1 bt157.2.1 bt157.2.2.1 0 0 ([] : List (List (S28)))).bind fun t165 => (some t165)) else (none)) else (none)) else (none)) else (none)) else (none)) else (none)) else (none)) else (none)) else (none))) else (none)) else (none))) else (none)) else (none)) else (none))))))) else (none)))) else (none)))) else (none))) else (none)) else (none)) = some r := by first | (rw [hji19] at H; exact H) | (simp only [hji19] at H ⊢; exact H)
  (try rw [hji19] at A4)
  (try rw [hji19] at A6)
  (try rw [hji19] at A17)
  by_cases c20 : 0 ≤ (ji19)
  rotate_left
  · rw [if_neg c20] at H
    exact absurd H (by simp)
  rw [if_pos c20] at H
  have c20b0 := eq_true c20
  have c20b1 : decide (0 ≤ (ji19)) = true := decide_eq_true c20
  clear c20
  by_cases c21 : (ji19) ≤ ((rd_L3 t105 (ji8)).length : Int)
  rotate_left
  · rw [if_neg c21] at H
    exact absurd H (by simp)
  rw [if_pos c21] at H
  have c21b0 := eq_true c21
  have c21b1 : decide ((ji19) ≤ ((rd_L3 t105 (ji8)).length : Int)) = true := decide_eq_true c21
  clear c21
  obtain ⟨y122, hy122⟩ : ∃ y_ : List (S28), y_ = ((rd_L3 t105 (ji8)).take ((ji19) : Int).toNat) := ⟨_, rfl⟩
  replace H : (if ([] : List (S28)).length + y122.length < 2513169434916 then ((some (([] : List (S28)) ++ y122 : List (S28))).bind fun y127 => ((partitalaw16_End.f 0).bind fun bt130 => (if y127.length < 2513169434916 then ((some (y127 ++ [(⟨bt130.1, bt130.2.1, bt130.2.2.1, bt130.2.2.2.1, bt130.2.2.2.2.1, bt130.2.2.2.2.2⟩ : S28)] : List (S28))).bind fun y136 => ((some ((rd_L3 t105 (ji8)).drop ((ji19) : Int).toNat : List (S28))).bind fun y139 => (if y136.length + y139.length < 2513169434916 then ((some (y119.set ((ji8) : Int).toNat (y136 ++ y139) : List (List (S28)))).bind fun y147 => ((smf_Check.f k t103 t104 y147).bind fun bt148 => ((smf_Print.f k t103 t104 y147).bind fun bt150 => ((wire_Encode.f k (rd_L3 y147 (ji8))).bind fun bt153 => ((partitalaw16_big.f 6).bind fun t155 => (if 4 + t155.size ≤ 9223372036854775807 then (if ((⟨#[77, 84, 104, 100]⟩ : ByteArray) ++ t155).size + 6 ≤ 9223372036854775807 then (if (((⟨#[77, 84, 104, 100]⟩ : ByteArray) ++ t155) ++ (⟨#[0, 0, 0, 1, 0, 96]⟩ : ByteArray)).size + 4 ≤ 9223372036854775807 then ((partitalaw16_big.f (bt153.1.size : Int)).bind fun t156 => (if ((((⟨#[77, 84, 104, 100]⟩ : ByteArray) ++ t155) ++ (⟨#[0, 0, 0, 1, 0, 96]⟩ : ByteArray)) ++ (⟨#[77, 84, 114, 107]⟩ : ByteArray)).size + t156.size ≤ 9223372036854775807 then (if (((((⟨#[77, 84, 104, 100]⟩ : ByteArray) ++ t155) ++ (⟨#[0, 0, 0, 1, 0, 96]⟩ : ByteArray)) ++ (⟨#[77, 84, 114, 107]⟩ : ByteArray)) ++ t156).size + bt153.1.size ≤ 9223372036854775807 then ((smf_Parse.f k ((((((⟨#[77, 84, 104, 100]⟩ : ByteArray) ++ t155) ++ (⟨#[0, 0, 0, 1, 0, 96]⟩ : ByteArray)) ++ (⟨#[77, 84, 114, 107]⟩ : ByteArray)) ++ t156) ++ bt153.1)).bind fun bt157 => (if t121 = 160 then (if t120 = (ji8) then (if bt148.2 = 160 then (if bt148.1 = (ji8) then (if bt150.2 = 160 then (if bt150.1.toList = ([] : List UInt8) then (if bt153.2 = 0 then (if bt157.2.2.2.2 = 160 then (if bt157.2.2.2.1 = 22 then ((smf_Same.f k bt157.1 bt157.2.1 bt157.2.2.1 0 0 ([] : List (List (S28)))).bind fun t165 => (some t165)) else (none)) else (none)) else (none)) else (none)) else (none)) else (none)) else (none)) else (none)) else (none))) else (none)) else (none))) else (none)) else (none)) else (none))))))) else (none)))) else (none)))) else (none)) = some r := by first | (rw [hy122]; with_reducible exact H) | (have H2_ := (Option.bind_some _ _).symm.trans H; rw [hy122]; with_reducible exact H2_) | (have H2_ := (Option.bind_some _ _).symm.trans H; with_reducible exact H2_) | with_reducible exact H | (rw [hy122]; exact H) | exact H
  have Ny122 := Aside0.mk hy122
  clear hy122
  by_cases c22 : ([] : List (S28)).length + y122.length < 2513169434916
  rotate_left
  · rw [if_neg c22] at H
    exact absurd H (by simp)
  rw [if_pos c22] at H
  have LMc22 := Aside0.mk c22
  clear c22
  obtain ⟨y127, hy127⟩ : ∃ y_ : List (S28), y_ = (([] : List (S28)) ++ y122) := ⟨_, rfl⟩
  replace H : ((partitalaw16_End.f 0).bind fun bt130 => (if y127.length < 2513169434916 then ((some (y127 ++ [(⟨bt130.1, bt130.2.1, bt130.2.2.1, bt130.2.2.2.1, bt130.2.2.2.2.1, bt130.2.2.2.2.2⟩ : S28)] : List (S28))).bind fun y136 => ((some ((rd_L3 t105 (ji8)).drop ((ji19) : Int).toNat : List (S28))).bind fun y139 => (if y136.length + y139.length < 2513169434916 then ((some (y119.set ((ji8) : Int).toNat (y136 ++ y139) : List (List (S28)))).bind fun y147 => ((smf_Check.f k t103 t104 y147).bind fun bt148 => ((smf_Print.f k t103 t104 y147).bind fun bt150 => ((wire_Encode.f k (rd_L3 y147 (ji8))).bind fun bt153 => ((partitalaw16_big.f 6).bind fun t155 => (if 4 + t155.size ≤ 9223372036854775807 then (if ((⟨#[77, 84, 104, 100]⟩ : ByteArray) ++ t155).size + 6 ≤ 9223372036854775807 then (if (((⟨#[77, 84, 104, 100]⟩ : ByteArray) ++ t155) ++ (⟨#[0, 0, 0, 1, 0, 96]⟩ : ByteArray)).size + 4 ≤ 9223372036854775807 then ((partitalaw16_big.f (bt153.1.size : Int)).bind fun t156 => (if ((((⟨#[77, 84, 104, 100]⟩ : ByteArray) ++ t155) ++ (⟨#[0, 0, 0, 1, 0, 96]⟩ : ByteArray)) ++ (⟨#[77, 84, 114, 107]⟩ : ByteArray)).size + t156.size ≤ 9223372036854775807 then (if (((((⟨#[77, 84, 104, 100]⟩ : ByteArray) ++ t155) ++ (⟨#[0, 0, 0, 1, 0, 96]⟩ : ByteArray)) ++ (⟨#[77, 84, 114, 107]⟩ : ByteArray)) ++ t156).size + bt153.1.size ≤ 9223372036854775807 then ((smf_Parse.f k ((((((⟨#[77, 84, 104, 100]⟩ : ByteArray) ++ t155) ++ (⟨#[0, 0, 0, 1, 0, 96]⟩ : ByteArray)) ++ (⟨#[77, 84, 114, 107]⟩ : ByteArray)) ++ t156) ++ bt153.1)).bind fun bt157 => (if t121 = 160 then (if t120 = (ji8) then (if bt148.2 = 160 then (if bt148.1 = (ji8) then (if bt150.2 = 160 then (if bt150.1.toList = ([] : List UInt8) then (if bt153.2 = 0 then (if bt157.2.2.2.2 = 160 then (if bt157.2.2.2.1 = 22 then ((smf_Same.f k bt157.1 bt157.2.1 bt157.2.2.1 0 0 ([] : List (List (S28)))).bind fun t165 => (some t165)) else (none)) else (none)) else (none)) else (none)) else (none)) else (none)) else (none)) else (none)) else (none))) else (none)) else (none))) else (none)) else (none)) else (none))))))) else (none)))) else (none))) = some r := by first | (rw [hy127]; with_reducible exact H) | (have H2_ := (Option.bind_some _ _).symm.trans H; rw [hy127]; with_reducible exact H2_) | (have H2_ := (Option.bind_some _ _).symm.trans H; with_reducible exact H2_) | with_reducible exact H | (rw [hy127]; exact H) | exact H
  have Ny127 := Aside0.mk hy127
  clear hy127
  replace H := Option.bind_eq_some_iff.mp H
  obtain ⟨⟨t130, t131, t132, t133, t134, t135⟩, A230, H⟩ := H
  try dsimp -simprocs only at H
  have A23 := Aside0.mk A230
  clear A230
  by_cases c24 : y127.length < 2513169434916
  rotate_left
  · rw [if_neg c24] at H
    exact absurd H (by simp)
  rw [if_pos c24] at H
  have LMc24 := Aside0.mk c24
  clear c24
  obtain ⟨y136, hy136⟩ : ∃ y_ : List (S28), y_ = (y127 ++ [(⟨t130, t131, t132, t133, t134, t135⟩ : S28)]) := ⟨_, rfl⟩
  replace H : ((some ((rd_L3 t105 (ji8)).drop ((ji19) : Int).toNat : List (S28))).bind fun y139 => (if y136.length + y139.length < 2513169434916 then ((some (y119.set ((ji8) : Int).toNat (y136 ++ y139) : List (List (S28)))).bind fun y147 => ((smf_Check.f k t103 t104 y147).bind fun bt148 => ((smf_Print.f k t103 t104 y147).bind fun bt150 => ((wire_Encode.f k (rd_L3 y147 (ji8))).bind fun bt153 => ((partitalaw16_big.f 6).bind fun t155 => (if 4 + t155.size ≤ 9223372036854775807 then (if ((⟨#[77, 84, 104, 100]⟩ : ByteArray) ++ t155).size + 6 ≤ 9223372036854775807 then (if (((⟨#[77, 84, 104, 100]⟩ : ByteArray) ++ t155) ++ (⟨#[0, 0, 0, 1, 0, 96]⟩ : ByteArray)).size + 4 ≤ 9223372036854775807 then ((partitalaw16_big.f (bt153.1.size : Int)).bind fun t156 => (if ((((⟨#[77, 84, 104, 100]⟩ : ByteArray) ++ t155) ++ (⟨#[0, 0, 0, 1, 0, 96]⟩ : ByteArray)) ++ (⟨#[77, 84, 114, 107]⟩ : ByteArray)).size + t156.size ≤ 9223372036854775807 then (if (((((⟨#[77, 84, 104, 100]⟩ : ByteArray) ++ t155) ++ (⟨#[0, 0, 0, 1, 0, 96]⟩ : ByteArray)) ++ (⟨#[77, 84, 114, 107]⟩ : ByteArray)) ++ t156).size + bt153.1.size ≤ 9223372036854775807 then ((smf_Parse.f k ((((((⟨#[77, 84, 104, 100]⟩ : ByteArray) ++ t155) ++ (⟨#[0, 0, 0, 1, 0, 96]⟩ : ByteArray)) ++ (⟨#[77, 84, 114, 107]⟩ : ByteArray)) ++ t156) ++ bt153.1)).bind fun bt157 => (if t121 = 160 then (if t120 = (ji8) then (if bt148.2 = 160 then (if bt148.1 = (ji8) then (if bt150.2 = 160 then (if bt150.1.toList = ([] : List UInt8) then (if bt153.2 = 0 then (if bt157.2.2.2.2 = 160 then (if bt157.2.2.2.1 = 22 then ((smf_Same.f k bt157.1 bt157.2.1 bt157.2.2.1 0 0 ([] : List (List (S28)))).bind fun t165 => (some t165)) else (none)) else (none)) else (none)) else (none)) else (none)) else (none)) else (none)) else (none)) else (none))) else (none)) else (none))) else (none)) else (none)) else (none))))))) else (none))) = some r := by first | (rw [hy136]; with_reducible exact H) | (have H2_ := (Option.bind_some _ _).symm.trans H; rw [hy136]; with_reducible exact H2_) | (have H2_ := (Option.bind_some _ _).symm.trans H; with_reducible exact H2_) | with_reducible exact H | (rw [hy136]; exact H) | exact H
  have Ny136 := Aside0.mk hy136
  clear hy136
  have c25b0 := eq_true (of_decide_eq_true qq5 : 0 ≤ (ji19))
  have c26b0 := eq_true (of_decide_eq_true qq5 : (ji19) ≤ ((rd_L3 t105 (ji8)).length : Int))
  obtain ⟨y139, hy139⟩ : ∃ y_ : List (S28), y_ = ((rd_L3 t105 (ji8)).drop ((ji19) : Int).toNat) := ⟨_, rfl⟩
  replace H : (if y136.length + y139.length < 2513169434916 then ((some (y119.set ((ji8) : Int).toNat (y136 ++ y139) : List (List (S28)))).bind fun y147 => ((smf_Check.f k t103 t104 y147).bind fun bt148 => ((smf_Print.f k t103 t104 y147).bind fun bt150 => ((wire_Encode.f k (rd_L3 y147 (ji8))).bind fun bt153 => ((partitalaw16_big.f 6).bind fun t155 => (if 4 + t155.size ≤ 9223372036854775807 then (if ((⟨#[77, 84, 104, 100]⟩ : ByteArray) ++ t155).size + 6 ≤ 9223372036854775807 then (if (((⟨#[77, 84, 104, 100]⟩ : ByteArray) ++ t155) ++ (⟨#[0, 0, 0, 1, 0, 96]⟩ : ByteArray)).size + 4 ≤ 9223372036854775807 then ((partitalaw16_big.f (bt153.1.size : Int)).bind fun t156 => (if ((((⟨#[77, 84, 104, 100]⟩ : ByteArray) ++ t155) ++ (⟨#[0, 0, 0, 1, 0, 96]⟩ : ByteArray)) ++ (⟨#[77, 84, 114, 107]⟩ : ByteArray)).size + t156.size ≤ 9223372036854775807 then (if (((((⟨#[77, 84, 104, 100]⟩ : ByteArray) ++ t155) ++ (⟨#[0, 0, 0, 1, 0, 96]⟩ : ByteArray)) ++ (⟨#[77, 84, 114, 107]⟩ : ByteArray)) ++ t156).size + bt153.1.size ≤ 9223372036854775807 then ((smf_Parse.f k ((((((⟨#[77, 84, 104, 100]⟩ : ByteArray) ++ t155) ++ (⟨#[0, 0, 0, 1, 0, 96]⟩ : ByteArray)) ++ (⟨#[77, 84, 114, 107]⟩ : ByteArray)) ++ t156) ++ bt153.1)).bind fun bt157 => (if t121 = 160 then (if t120 = (ji8) then (if bt148.2 = 160 then (if bt148.1 = (ji8) then (if bt150.2 = 160 then (if bt150.1.toList = ([] : List UInt8) then (if bt153.2 = 0 then (if bt157.2.2.2.2 = 160 then (if bt157.2.2.2.1 = 22 then ((smf_Same.f k bt157.1 bt157.2.1 bt157.2.2.1 0 0 ([] : List (List (S28)))).bind fun t165 => (some t165)) else (none)) else (none)) else (none)) else (none)) else (none)) else (none)) else (none)) else (none)) else (none))) else (none)) else (none))) else (none)) else (none)) else (none))))))) else (none)) = some r := by first | (rw [hy139]; with_reducible exact H) | (have H2_ := (Option.bind_some _ _).symm.trans H; rw [hy139]; with_reducible exact H2_) | (have H2_ := (Option.bind_some _ _).symm.trans H; with_reducible exact H2_) | with_reducible exact H | (rw [hy139]; exact H) | exact H
  have Ny139 := Aside0.mk hy139
  clear hy139
  by_cases c27 : y136.length + y139.length < 2513169434916
  rotate_left
  · rw [if_neg c27] at H
    exact absurd H (by simp)
  rw [if_pos c27] at H
  have LMc27 := Aside0.mk c27
  clear c27
  obtain ⟨y144, hy144⟩ : ∃ y_ : List (S28), y_ = (y136 ++ y139) := ⟨_, rfl⟩
  replace H : ((some (y119.set ((ji8) : Int).toNat y144 : List (List (S28)))).bind fun y147 => ((smf_Check.f k t103 t104 y147).bind fun bt148 => ((smf_Print.f k t103 t104 y147).bind fun bt150 => ((wire_Encode.f k (rd_L3 y147 (ji8))).bind fun bt153 => ((partitalaw16_big.f 6).bind fun t155 => (if 4 + t155.size ≤ 9223372036854775807 then (if ((⟨#[77, 84, 104, 100]⟩ : ByteArray) ++ t155).size + 6 ≤ 9223372036854775807 then (if (((⟨#[77, 84, 104, 100]⟩ : ByteArray) ++ t155) ++ (⟨#[0, 0, 0, 1, 0, 96]⟩ : ByteArray)).size + 4 ≤ 9223372036854775807 then ((partitalaw16_big.f (bt153.1.size : Int)).bind fun t156 => (if ((((⟨#[77, 84, 104, 100]⟩ : ByteArray) ++ t155) ++ (⟨#[0, 0, 0, 1, 0, 96]⟩ : ByteArray)) ++ (⟨#[77, 84, 114, 107]⟩ : ByteArray)).size + t156.size ≤ 9223372036854775807 then (if (((((⟨#[77, 84, 104, 100]⟩ : ByteArray) ++ t155) ++ (⟨#[0, 0, 0, 1, 0, 96]⟩ : ByteArray)) ++ (⟨#[77, 84, 114, 107]⟩ : ByteArray)) ++ t156).size + bt153.1.size ≤ 9223372036854775807 then ((smf_Parse.f k ((((((⟨#[77, 84, 104, 100]⟩ : ByteArray) ++ t155) ++ (⟨#[0, 0, 0, 1, 0, 96]⟩ : ByteArray)) ++ (⟨#[77, 84, 114, 107]⟩ : ByteArray)) ++ t156) ++ bt153.1)).bind fun bt157 => (if t121 = 160 then (if t120 = (ji8) then (if bt148.2 = 160 then (if bt148.1 = (ji8) then (if bt150.2 = 160 then (if bt150.1.toList = ([] : List UInt8) then (if bt153.2 = 0 then (if bt157.2.2.2.2 = 160 then (if bt157.2.2.2.1 = 22 then ((smf_Same.f k bt157.1 bt157.2.1 bt157.2.2.1 0 0 ([] : List (List (S28)))).bind fun t165 => (some t165)) else (none)) else (none)) else (none)) else (none)) else (none)) else (none)) else (none)) else (none)) else (none))) else (none)) else (none))) else (none)) else (none)) else (none))))))) = some r := by first | (rw [hy144]; with_reducible exact H) | (have H2_ := (Option.bind_some _ _).symm.trans H; rw [hy144]; with_reducible exact H2_) | (have H2_ := (Option.bind_some _ _).symm.trans H; with_reducible exact H2_) | with_reducible exact H | (rw [hy144]; exact H) | exact H
  have Ny144 := Aside0.mk hy144
  clear hy144
  obtain ⟨y147, hy147⟩ : ∃ y_ : List (List (S28)), y_ = (y119.set ((ji8) : Int).toNat y144) := ⟨_, rfl⟩
  replace H : ((smf_Check.f k t103 t104 y147).bind fun bt148 => ((smf_Print.f k t103 t104 y147).bind fun bt150 => ((wire_Encode.f k (rd_L3 y147 (ji8))).bind fun bt153 => ((partitalaw16_big.f 6).bind fun t155 => (if 4 + t155.size ≤ 9223372036854775807 then (if ((⟨#[77, 84, 104, 100]⟩ : ByteArray) ++ t155).size + 6 ≤ 9223372036854775807 then (if (((⟨#[77, 84, 104, 100]⟩ : ByteArray) ++ t155) ++ (⟨#[0, 0, 0, 1, 0, 96]⟩ : ByteArray)).size + 4 ≤ 9223372036854775807 then ((partitalaw16_big.f (bt153.1.size : Int)).bind fun t156 => (if ((((⟨#[77, 84, 104, 100]⟩ : ByteArray) ++ t155) ++ (⟨#[0, 0, 0, 1, 0, 96]⟩ : ByteArray)) ++ (⟨#[77, 84, 114, 107]⟩ : ByteArray)).size + t156.size ≤ 9223372036854775807 then (if (((((⟨#[77, 84, 104, 100]⟩ : ByteArray) ++ t155) ++ (⟨#[0, 0, 0, 1, 0, 96]⟩ : ByteArray)) ++ (⟨#[77, 84, 114, 107]⟩ : ByteArray)) ++ t156).size + bt153.1.size ≤ 9223372036854775807 then ((smf_Parse.f k ((((((⟨#[77, 84, 104, 100]⟩ : ByteArray) ++ t155) ++ (⟨#[0, 0, 0, 1, 0, 96]⟩ : ByteArray)) ++ (⟨#[77, 84, 114, 107]⟩ : ByteArray)) ++ t156) ++ bt153.1)).bind fun bt157 => (if t121 = 160 then (if t120 = (ji8) then (if bt148.2 = 160 then (if bt148.1 = (ji8) then (if bt150.2 = 160 then (if bt150.1.toList = ([] : List UInt8) then (if bt153.2 = 0 then (if bt157.2.2.2.2 = 160 then (if bt157.2.2.2.1 = 22 then ((smf_Same.f k bt157.1 bt157.2.1 bt157.2.2.1 0 0 ([] : List (List (S28)))).bind fun t165 => (some t165)) else (none)) else (none)) else (none)) else (none)) else (none)) else (none)) else (none)) else (none)) else (none))) else (none)) else (none))) else (none)) else (none)) else (none)))))) = some r := by first | (rw [hy147]; with_reducible exact H) | (have H2_ := (Option.bind_some _ _).symm.trans H; rw [hy147]; with_reducible exact H2_) | (have H2_ := (Option.bind_some _ _).symm.trans H; with_reducible exact H2_) | with_reducible exact H | (rw [hy147]; exact H) | exact H
  have Ny147 := Aside0.mk hy147
  clear hy147
  replace H := Option.bind_eq_some_iff.mp H
  obtain ⟨⟨t148, t149⟩, A290, H⟩ := H
  try dsimp -simprocs only at H
  have A29 := Aside0.mk A290
  clear A290
  replace H := Option.bind_eq_some_iff.mp H
  obtain ⟨⟨t150, t151⟩, A300, H⟩ := H
  try dsimp -simprocs only at H
  have A30 := Aside0.mk A300
  clear A300
  replace H := Option.bind_eq_some_iff.mp H
  obtain ⟨⟨t153, t154⟩, A310, H⟩ := H
  try dsimp -simprocs only at H
  have A31 := Aside0.mk A310
  clear A310
  replace H := Option.bind_eq_some_iff.mp H
  obtain ⟨t155, A320, H⟩ := H
  try dsimp -simprocs only at H
  have A32 := Aside0.mk A320
  clear A320
  by_cases c33 : 4 + t155.size ≤ 9223372036854775807
  rotate_left
  · rw [if_neg c33] at H
    exact absurd H (by simp)
  rw [if_pos c33] at H
  have c33b0 := eq_true c33
  have c33b1 : decide (4 + t155.size ≤ 9223372036854775807) = true := decide_eq_true c33
  try have c33b2 : (9223372036854775807 < 4 + t155.size) = False := eq_false (Nat.not_lt.2 c33)
  by_cases c34 : ((⟨#[77, 84, 104, 100]⟩ : ByteArray) ++ t155).size + 6 ≤ 9223372036854775807
  rotate_left
  · rw [if_neg c34] at H
    exact absurd H (by simp)
  rw [if_pos c34] at H
  have c34b0 := eq_true c34
  have c34b1 : decide (((⟨#[77, 84, 104, 100]⟩ : ByteArray) ++ t155).size + 6 ≤ 9223372036854775807) = true := decide_eq_true c34
  try have c34b2 : (9223372036854775807 < ((⟨#[77, 84, 104, 100]⟩ : ByteArray) ++ t155).size + 6) = False := eq_false (Nat.not_lt.2 c34)
  try have c34b3 : (9223372036854775807 < 4 + t155.size + 6) = False := eq_false (Nat.not_lt.2 (by have h_ := c34; simp only [ByteArray.size_append] at h_; exact h_))
  by_cases c35 : (((⟨#[77, 84, 104, 100]⟩ : ByteArray) ++ t155) ++ (⟨#[0, 0, 0, 1, 0, 96]⟩ : ByteArray)).size + 4 ≤ 9223372036854775807
  rotate_left
  · rw [if_neg c35] at H
    exact absurd H (by simp)
  rw [if_pos c35] at H
  have c35b0 := eq_true c35
  have c35b1 : decide ((((⟨#[77, 84, 104, 100]⟩ : ByteArray) ++ t155) ++ (⟨#[0, 0, 0, 1, 0, 96]⟩ : ByteArray)).size + 4 ≤ 9223372036854775807) = true := decide_eq_true c35
  try have c35b2 : (9223372036854775807 < (((⟨#[77, 84, 104, 100]⟩ : ByteArray) ++ t155) ++ (⟨#[0, 0, 0, 1, 0, 96]⟩ : ByteArray)).size + 4) = False := eq_false (Nat.not_lt.2 c35)
  try have c35b3 : (9223372036854775807 < 4 + t155.size + 6 + 4) = False := eq_false (Nat.not_lt.2 (by have h_ := c35; simp only [ByteArray.size_append] at h_; exact h_))
  replace H := Option.bind_eq_some_iff.mp H
  obtain ⟨t156, A360, H⟩ := H
  try dsimp -simprocs only at H
  have A36 := Aside0.mk A360
  clear A360
  by_cases c37 : ((((⟨#[77, 84, 104, 100]⟩ : ByteArray) ++ t155) ++ (⟨#[0, 0, 0, 1, 0, 96]⟩ : ByteArray)) ++ (⟨#[77, 84, 114, 107]⟩ : ByteArray)).size + t156.size ≤ 9223372036854775807
  rotate_left
  · rw [if_neg c37] at H
    exact absurd H (by simp)
  rw [if_pos c37] at H
  have c37b0 := eq_true c37
  have c37b1 : decide (((((⟨#[77, 84, 104, 100]⟩ : ByteArray) ++ t155) ++ (⟨#[0, 0, 0, 1, 0, 96]⟩ : ByteArray)) ++ (⟨#[77, 84, 114, 107]⟩ : ByteArray)).size + t156.size ≤ 9223372036854775807) = true := decide_eq_true c37
  try have c37b2 : (9223372036854775807 < ((((⟨#[77, 84, 104, 100]⟩ : ByteArray) ++ t155) ++ (⟨#[0, 0, 0, 1, 0, 96]⟩ : ByteArray)) ++ (⟨#[77, 84, 114, 107]⟩ : ByteArray)).size + t156.size) = False := eq_false (Nat.not_lt.2 c37)
  try have c37b3 : (9223372036854775807 < 4 + t155.size + 6 + 4 + t156.size) = False := eq_false (Nat.not_lt.2 (by have h_ := c37; simp only [ByteArray.size_append] at h_; exact h_))
  by_cases c38 : (((((⟨#[77, 84, 104, 100]⟩ : ByteArray) ++ t155) ++ (⟨#[0, 0, 0, 1, 0, 96]⟩ : ByteArray)) ++ (⟨#[77, 84, 114, 107]⟩ : ByteArray)) ++ t156).size + t153.size ≤ 9223372036854775807
  rotate_left
  · rw [if_neg c38] at H
    exact absurd H (by simp)
  rw [if_pos c38] at H
  have c38b0 := eq_true c38
  have c38b1 : decide ((((((⟨#[77, 84, 104, 100]⟩ : ByteArray) ++ t155) ++ (⟨#[0, 0, 0, 1, 0, 96]⟩ : ByteArray)) ++ (⟨#[77, 84, 114, 107]⟩ : ByteArray)) ++ t156).size + t153.size ≤ 9223372036854775807) = true := decide_eq_true c38
  try have c38b2 : (9223372036854775807 < (((((⟨#[77, 84, 104, 100]⟩ : ByteArray) ++ t155) ++ (⟨#[0, 0, 0, 1, 0, 96]⟩ : ByteArray)) ++ (⟨#[77, 84, 114, 107]⟩ : ByteArray)) ++ t156).size + t153.size) = False := eq_false (Nat.not_lt.2 c38)
  try have c38b3 : (9223372036854775807 < 4 + t155.size + 6 + 4 + t156.size + t153.size) = False := eq_false (Nat.not_lt.2 (by have h_ := c38; simp only [ByteArray.size_append] at h_; exact h_))
  replace H := Option.bind_eq_some_iff.mp H
  obtain ⟨⟨t157, t158, t159, t162, t163⟩, A390, H⟩ := H
  try dsimp -simprocs only at H
  have A39 := Aside0.mk A390
  clear A390
  by_cases c40 : t121 = 160
  rotate_left
  · rw [if_neg c40] at H
    exact absurd H (by simp)
  rw [if_pos c40] at H
  have c40b0 : (t121 == 160) = true := beq_iff_eq.mpr c40
  have c40b1 : (t121 != 160) = false := bne_eq_false_iff_eq.mpr c40
  clear c40
  by_cases c41 : t120 = (ji8)
  rotate_left
  · rw [if_neg c41] at H
    exact absurd H (by simp)
  rw [if_pos c41] at H
  have c41b0 : (t120 == (ji8)) = true := beq_iff_eq.mpr c41
  have c41b1 : (t120 != (ji8)) = false := bne_eq_false_iff_eq.mpr c41
  clear c41
  by_cases c42 : t149 = 160
  rotate_left
  · rw [if_neg c42] at H
    exact absurd H (by simp)
  rw [if_pos c42] at H
  have c42b0 : (t149 == 160) = true := beq_iff_eq.mpr c42
  have c42b1 : (t149 != 160) = false := bne_eq_false_iff_eq.mpr c42
  clear c42
  by_cases c43 : t148 = (ji8)
  rotate_left
  · rw [if_neg c43] at H
    exact absurd H (by simp)
  rw [if_pos c43] at H
  have c43b0 : (t148 == (ji8)) = true := beq_iff_eq.mpr c43
  have c43b1 : (t148 != (ji8)) = false := bne_eq_false_iff_eq.mpr c43
  clear c43
  by_cases c44 : t151 = 160
  rotate_left
  · rw [if_neg c44] at H
    exact absurd H (by simp)
  rw [if_pos c44] at H
  have c44b0 : (t151 == 160) = true := beq_iff_eq.mpr c44
  have c44b1 : (t151 != 160) = false := bne_eq_false_iff_eq.mpr c44
  clear c44
  by_cases c45 : t150.toList = ([] : List UInt8)
  rotate_left
  · rw [if_neg c45] at H
    exact absurd H (by simp)
  rw [if_pos c45] at H
  have c45b0 : (t150.toList == ([] : List UInt8)) = true := beq_iff_eq.mpr c45
  have c45b1 : (t150.toList != ([] : List UInt8)) = false := bne_eq_false_iff_eq.mpr c45
  clear c45
  by_cases c46 : t154 = 0
  rotate_left
  · rw [if_neg c46] at H
    exact absurd H (by simp)
  rw [if_pos c46] at H
  have c46b0 : (t154 == 0) = true := beq_iff_eq.mpr c46
  have c46b1 : (t154 != 0) = false := bne_eq_false_iff_eq.mpr c46
  clear c46
  by_cases c47 : t163 = 160
  rotate_left
  · rw [if_neg c47] at H
    exact absurd H (by simp)
  rw [if_pos c47] at H
  have c47b0 : (t163 == 160) = true := beq_iff_eq.mpr c47
  have c47b1 : (t163 != 160) = false := bne_eq_false_iff_eq.mpr c47
  clear c47
  by_cases c48 : t162 = 22
  rotate_left
  · rw [if_neg c48] at H
    exact absurd H (by simp)
  rw [if_pos c48] at H
  have c48b0 : (t162 == 22) = true := beq_iff_eq.mpr c48
  have c48b1 : (t162 != 22) = false := bne_eq_false_iff_eq.mpr c48
  clear c48
  replace H := Option.bind_eq_some_iff.mp H
  obtain ⟨t165, A490, H⟩ := H
  try dsimp -simprocs only at H
  have A49 := Aside0.mk A490
  clear A490
  obtain rfl := Option.some.inj H
  go_enter Try.func9, Try.ntmps9
  try go_wp2_with (first | ((with_reducible refine gate_dst (N := 3) rfl ?_); refine box_event ?hg (N := 3) ?hd (cs := #[.int .i64 a0_0, .int .i64 a0_1, .slice A0_2 l0_2.length c0_2]) (t := 24) ?hr ?_; (case hd => rfl); (case hg => rfl); (case hr => exact qq9); intro gb101 hg w50 hbox hb; have BK101 := Aside0.mk (hbox); have GW101 := Aside0.mk ((qqa : w.heap.size ≤ gb101)); have GE101 := Aside0.mk ((qqa : w.heap.size ≤ gb101)); replace HB := Aside0.mk (below_step (qB HB.out) hb); clear hb hbox hg) | ((with_reducible refine gate_callee (f := 11) rfl ?_); refine goesL_ (some 25) rfl rfl Try.func11 (by kernel_rfl) rfl #[] rfl qq0 ?_; (with_reducible refine (partitalaw16_examples.calls k  true _ A4.out).mono ?_); rintro e w51 ⟨rfl, hb⟩; refine ⟨_, rfl, ?_⟩; replace BK101 := Aside0.mk (blk_below (bq BK101.out) hb); replace HB := Aside0.mk (below_step (qS1 GE101 HB.out) hb); (try clear hb); (try clear hb2); (try clear hk); (try clear hi); obtain ⟨hcz52_0, hcz52_1, hcz52_2, hfz52_0, hfz52_1, hfz52_2⟩ := blk3 BK101.out) | ((with_reducible refine gate_callee (f := 12) rfl ?_); refine goesL_ (some 29) rfl rfl Try.func12 (by kernel_rfl) rfl #[.agg #[.int .i64 a0_0, .int .i64 a0_1, .slice A0_2 l0_2.length c0_2]] rfl qq0 ?_; (with_reducible refine (partitalaw16_File.calls k a0_0 a0_1 _ _ l0_2 t103 t104 t105 _ ?side1 ?side2 A6.out).mono ?_); (case side1 => repeat (first | exact (Kd.C_below HR0_2.out HB.out) | (with_reducible refine Kd.C_alloc ?_ _) | (with_reducible refine Kd.C_drewN ?_ _) | (with_reducible refine Kd.C_drew ?_))); (case side2 => exact HC0_2.out); rintro e w53 ⟨v106, rfl, ho0, hb⟩; refine ⟨_, rfl, ?_⟩; have HO107 := Aside0.mk (Kd.N_lower (Kd.N_mono (ok' := fun k_ => k_ ≠ gb101) ho0 (fun k_ hk_ => (Kd.freshB (bq BK101.out) k_ hk_))) (below_size (qS1 GE101 HB.out))); replace BK101 := Aside0.mk (blk_below (bq BK101.out) hb); replace HB := Aside0.mk (below_step (qS1 GE101 HB.out) hb); (try clear hb); (try clear hb2); (try clear hk); (try clear hi); (try clear ho0)) | ((with_reducible refine gate_dst (N := 8) rfl ?_); refine box_event ?hg (N := 8) ?hd (cs := #[.int .i64 0, .int .i64 0, .slice none 0 0]) (t := 24) ?hr ?_; (case hd => rfl); (case hg => rfl); (case hr => exact qq9); intro gb108 hg w54 hbox hb; replace HO107 := Aside0.mk (Kd.N_below (Kd.N_elderB (qN HO107.out) gb108 (Nat.le_of_eq hg.symm)) hb); have BK108 := Aside0.mk (hbox); have GW108 := Aside0.mk ((qqt : w.heap.size ≤ gb108)); have GE108 := Aside0.mk ((qqt : w.heap.size ≤ gb108)); replace HB := Aside0.mk (below_step (qS1 GE101 HB.out) hb); have NB101_108 := Aside0.mk ((qqc : gb101 ≠ gb108)); have NB108_101 := Aside0.mk ((qqd : gb108 ≠ gb101)); replace BK101 := Aside0.mk (blk_below (bq BK101.out) hb); clear hb hbox hg; have hnb55 := NB108_101.out; have hnc55 := NB101_108.out; obtain ⟨hcz56_0, hcz56_1, hcz56_2, hfz56_0, hfz56_1, hfz56_2⟩ := blk3 BK108.out; obtain ⟨Ao57, co57, eo57⟩ := Kd.N_slice HO107.out; subst eo57) | ((with_reducible refine gate_store (t := 24) (p := 8) rfl ?_); refine store_event (t := 24) (p := 8) (v := ?vo_w58) (w1 := (((w54.setCell ⟨gb108, 0, none⟩ (.int .i64 t103)).setCell ⟨gb108, 1, none⟩ (.int .i64 t104)).setCell ⟨gb108, 2, none⟩ (.slice Ao57 t105.length co57))) ?hg ?ho ?hn ?hr ?_; (case ho => rfl); (case hg => rfl); (case hn => rfl); (case hr => exact qq9); intro w58 hw; have n0_ : Aside0 (Kd.N (Kd.slice 28 k28) 30 w58 w.heap.size (fun k_ => k_ ≠ gb101 ∧ k_ ≠ gb108) (.slice Ao57 t105.length co57) t105) := ⟨(by rw [hw]; exact (by (with_reducible repeat (first | apply Kd.N_alloc | apply Kd.N_drewN | apply Kd.N_drew)); exact Kd.N_mono (Kd.N_far (p := ⟨gb108, 2, none⟩) (Kd.N_far (p := ⟨gb108, 1, none⟩) (Kd.N_far (p := ⟨gb108, 0, none⟩) (Kd.N_mono HO107.out (fun k_ hk => (⟨hk, hk.2⟩ : _ ∧ k_ ≠ gb108))) (fun _ hk => hk.2) (.int .i64 t103)) (fun _ hk => hk.2) (.int .i64 t104)) (fun _ hk => hk.2) (.slice Ao57 t105.length co57)) (fun _ hk => ⟨hk.1.1, hk.1.2⟩)))⟩; have n1_ : Aside0 (w58.heap[gb101]? = some (.cells #[.int .i64 a0_0, .int .i64 a0_1, .slice A0_2 l0_2.length c0_2] 24 (0, 0))) := ⟨(by rw [hw]; exact (by refine bq ?_; refine blk_far ?_ NB101_108.out _; refine bq ?_; refine blk_far ?_ NB101_108.out _; refine bq ?_; refine blk_far ?_ NB101_108.out _; exact bq BK101.out))⟩; have n2_ : Aside0 (w58.heap[gb108]? = some (.cells #[.int .i64 t103, .int .i64 t104, .slice Ao57 t105.length co57] 24 (0, 0))) := ⟨(by rw [hw]; exact (by refine bq ?_; refine blk_put (cs := #[.int .i64 t103, .int .i64 t104, .slice none 0 0]) ?_ 2 _ rfl; refine bq ?_; refine blk_put (cs := #[.int .i64 t103, .int .i64 0, .slice none 0 0]) ?_ 1 _ rfl; refine bq ?_; refine blk_put (cs := #[.int .i64 0, .int .i64 0, .slice none 0 0]) ?_ 0 _ rfl; exact bq BK108.out))⟩; have n3_ : Aside0 (Below w.heap.size w w58) := ⟨(by rw [hw]; exact (qS2 GE101 GE108 HB.out))⟩; clear hw; clear HO107; clear BK101; clear BK108; clear HB; have HO107 := n0_; have BK101 := n1_; have BK108 := n2_; have HB := n3_; clear n0_ n1_ n2_ n3_; obtain ⟨hcz59_0, hcz59_1, hcz59_2, hfz59_0, hfz59_1, hfz59_2⟩ := blk3 BK108.out; have p109 : 0 ≤ ((ji8) : Int) := of_decide_eq_true qq5; have q109 : (ji8) < (t105.length : Int) := of_decide_eq_true qq5; obtain ⟨ad109, A109_0, c109_0, e109, hx109_0, hl109_0, hi109_0⟩ := at_L3 (Kd.N_reads' HO107.out).2.2 (ji8) p109 q109; cases e109; obtain ⟨ce109, hce109, hMe109, hcc109⟩ := Kd.N_get HO107.out [] (ji8) p109 (by first | exact q109 | exact of_decide_eq_true qq5 | (have e_ := (Kd.N_reads' HO107.out).1; omega)); obtain ⟨ua109_0, uc109_0, rfl, ul109_0, ge109_0⟩ := Kd.FK_slice_open hMe109; have hv109_0 := hcc109 0 _ rfl; rw [Nat.add_zero, show ((Kd.slice 28 k28)).sz = 1 from rfl, Nat.mul_one] at hv109_0; replace hv109_0 := Option.some.inj (hv109_0.symm.trans hx109_0); injection hv109_0 with hva_ hvn_ hvc_; rw [hva_] at ge109_0; rw [hvc_] at ul109_0; have HL109_0 := Aside0.mk (show Kd.V k28 28 _ w.heap.size _ _ (rd_L3 t105 (ji8)) from Kd.V_mk ul109_0 ge109_0); clear hva_ hvn_ hvc_ ge109_0 ul109_0; clear hcc109 hce109; have HR109_0 := Aside0.mk hi109_0; have HC109_0 := Aside0.mk hl109_0; clear hi109_0 hl109_0; replace p109 := eq_true p109; replace q109 := eq_true q109))
  replace HO107 := Aside0.mk (Kd.N_drew HO107.out)
  replace HL109_0 := Aside0.mk (Kd.V_drew HL109_0.out)
  replace BK101 := Aside0.mk (blk_drew BK101.out)
  replace BK108 := Aside0.mk (blk_drew BK108.out)
  replace HR109_0 := Aside0.mk (Kd.C_drew HR109_0.out)
  replace HB := Aside0.mk (below_drew1 HB.out)
  refine start_ (n := 10) (S := fun w' => w'.cell? ⟨gb108, 0, none⟩ = some (.int .i64 t103) ∧ w'.cell? ⟨gb108, 1, none⟩ = some (.int .i64 t104) ∧ w'.cell? ⟨gb108, 2, none⟩ = some (.slice (some ad109) t105.length co57)) (ds := []) #[false, false, false, false, false, false, false, false, false, false] (by kernel_rfl) rfl rfl ⟨(blk_cell BK108.out 0).trans rfl, (blk_cell BK108.out 1).trans rfl, (blk_cell BK108.out 2).trans rfl⟩ (fun hHeld => ?_); refine with_tabW partitalaw16_SmfEnds.tab7 partitalaw16_SmfEnds.bits7 (fun HT_ HW_ => ?_)
  generalize w58.drew = w60 at HO107 HL109_0 BK101 BK108 HR109_0 HB hHeld ⊢
  refine pure_ (i := 0) (N := some 41) (v := ?_) (a' := ?_) #[true, false, false, false, false, false, false, false, false, false] rfl rfl (any_of HT_.out (by kernel_rfl)) (fun _ _ _ h => h) (Or.inl ⟨by rfl, ?_⟩) ?_ ?_
  rotate_left
  · intro w'
    go_simp
    with_reducible rfl
  rotate_left
  · simp only [Act.put, List.setIfInBounds_toArray, List.set_cons_zero, List.set_cons_succ, i64_w, i32_w]
    rfl
  refine pure_ (i := 2) (N := some 43) (v := ?_) (a' := ?_) #[true, false, true, false, false, false, false, false, false, false] rfl rfl (any_of HT_.out (by kernel_rfl)) (fun _ _ _ h => h) (Or.inl ⟨by rfl, ?_⟩) ?_ ?_
  rotate_left
  · intro w'
    go_simp
    with_reducible rfl
  rotate_left
  · simp only [Act.put, List.setIfInBounds_toArray, List.set_cons_zero, List.set_cons_succ, i64_w, i32_w]
    rfl
  refine pure_ (i := 4) (N := some 45) (v := ?_) (a' := ?_) #[true, false, true, false, true, false, false, false, false, false] rfl rfl (any_of HT_.out (by kernel_rfl)) (fun _ _ _ h => h) (Or.inl ⟨by rfl, ?_⟩) ?_ ?_
  rotate_left
  · intro w'
    go_simp
    with_reducible rfl
  rotate_left
  · simp only [Act.put, List.setIfInBounds_toArray, List.set_cons_zero, List.set_cons_succ, i64_w, i32_w]
    rfl
  refine take_ (i := 1) (N := some 42) (v := ?_) (a' := ?_) #[true, true, true, false, true, false, false, false, false, false] rfl rfl (take_ofW HT_.out HW_.out (by kernel_rfl)) (fun _ _ _ h => h) (Or.inl ⟨by rfl, ?_⟩) hHeld ?_ ?_
  rotate_left
  · rintro w' ⟨s0, s1, s2⟩
    go_simp
    with_reducible rfl
  rotate_left
  · simp only [Act.put, List.setIfInBounds_toArray, List.set_cons_zero, List.set_cons_succ, i64_w, i32_w]
    rfl
  refine take_ (i := 3) (N := some 44) (v := ?_) (a' := ?_) #[true, true, true, true, true, false, false, false, false, false] rfl rfl (take_ofW HT_.out HW_.out (by kernel_rfl)) (fun _ _ _ h => h) (Or.inl ⟨by rfl, ?_⟩) hHeld ?_ ?_
  rotate_left
  · rintro w' ⟨s0, s1, s2⟩
    go_simp
    with_reducible rfl
  rotate_left
  · simp only [Act.put, List.setIfInBounds_toArray, List.set_cons_zero, List.set_cons_succ, i64_w, i32_w]
    rfl
  refine take_ (i := 5) (N := some 46) (v := ?_) (a' := ?_) #[true, true, true, true, true, true, false, false, false, false] rfl rfl (take_ofW HT_.out HW_.out (by kernel_rfl)) (fun _ _ _ h => h) (Or.inl ⟨by rfl, ?_⟩) hHeld ?_ ?_
  rotate_left
  · rintro w' ⟨s0, s1, s2⟩
    go_simp
    with_reducible rfl
  rotate_left
  · simp only [Act.put, List.setIfInBounds_toArray, List.set_cons_zero, List.set_cons_succ, i64_w, i32_w]
    rfl
  refine join_ (σ := Value × Nat) 1 #[true, true, true, true, true, true, true, true, true, false] (fun s_ => [(47, s_.1), (11, .pointer (some ⟨s_.2, 0, none⟩)), (48, .agg #[.int .i64 t103, .int .i64 t104, s_.1])]) (fun s_ w' => (w'.cell? ⟨gb108, 0, none⟩ = some (.int .i64 t103) ∧ w'.cell? ⟨gb108, 1, none⟩ = some (.int .i64 t104) ∧ w'.cell? ⟨gb108, 2, none⟩ = some (.slice (some ad109) t105.length co57)) ∧ (Kd.V k28 28 w' w.heap.size (fun k_ => some k_ ≠ (.slice (some ad109) t105.length co57 : Value).ownBlock ∧ some k_ ≠ (s_.1 : Value).ownBlock ∧ k_ ≠ gb101 ∧ k_ ≠ gb108 ∧ k_ ≠ s_.2) (.slice A109_0 (rd_L3 t105 (ji8)).length c109_0) (rd_L3 t105 (ji8))) ∧ (Kd.N (Kd.slice 28 k28) 30 w' w.heap.size (fun k_ => some k_ ≠ (s_.1 : Value).ownBlock ∧ k_ ≠ gb101 ∧ k_ ≠ gb108 ∧ k_ ≠ s_.2) (.slice (some ad109) t105.length co57) t105) ∧ (Kd.N (Kd.slice 28 k28) 30 w' w.heap.size (fun k_ => k_ ≠ gb101 ∧ k_ ≠ gb108 ∧ k_ ≠ s_.2) s_.1 y110) ∧ (w'.heap[gb101]? = some (.cells #[.int .i64 a0_0, .int .i64 a0_1, .slice A0_2 l0_2.length c0_2] 24 (0, 0))) ∧ (w'.heap[gb108]? = some (.cells #[.int .i64 t103, .int .i64 t104, .slice (some ad109) t105.length co57] 24 (0, 0))) ∧ (w'.heap[s_.2]? = some (.cells #[.int .i64 0, .int .i64 0, .slice none 0 0] 24 (0, 0))) ∧ (w.heap.size ≤ s_.2) ∧ (w.heap.size ≤ s_.2) ∧ (gb101 ≠ s_.2) ∧ (s_.2 ≠ gb101) ∧ (gb108 ≠ s_.2) ∧ (s_.2 ≠ gb108) ∧ (Below w.heap.size w w')) ?_ ?_
  rotate_left
  · intro hCont
    refine two_ (i := 6) (j := 8) (Ni := some 47) (Nj := some 11) #[true, true, true, true, true, true, true, false, false, false] #[true, true, true, true, true, true, false, false, true, false] rfl rfl rfl rfl (two_of HT_.out (by kernel_rfl)) (by decide) (by decide) (fun K hK => ?_) (fun K hK => ?_)
    · skip
      refine Kd.N_append_rows_step (Kd.slice 28 k28) (w0 := w) w.heap.size rfl (.const (.slice none 0 0)) (.tmp 46) 22 30 (.slice none 0 0) 24 rfl Try.underlying22 info30 rfl (by decide) (by omega) (.slice none 0 0) ([] : List (List (S28))) t105 _ _ _ (fun k_ => k_ ≠ gb101 ∧ k_ ≠ gb108) (fun k_ => ((fun k_ => k_ ≠ gb101 ∧ k_ ≠ gb108)) k_ ∧ some k_ ≠ (.slice none 0 0 : Value).ownBlock) rfl rfl ?aO ?aR (fun _ hk => hk) ?aF ?aB ?aS ?aL ?_
      (case aR => exact (by skip; exact Kd.N_F (Kd.N_mono (ok' := (fun k_ => ((fun k_ => k_ ≠ gb101 ∧ k_ ≠ gb108)) k_ ∧ some k_ ≠ (.slice none 0 0 : Value).ownBlock)) (HO107.out) (fun k_ hk => ⟨⟨hk.1, hk.2⟩, qqG⟩))))
      (case aB => exact (qS2 GE101 GE108 HB.out))
      (case aF => exact (fun k_ hk => ⟨Kd.freshB (bq BK101.out) k_ hk, Kd.freshB (bq BK108.out) k_ hk⟩))
      (case aO => exact ((Kd.N_nil _ _ _ _ (fun k_ => k_ ≠ gb101 ∧ k_ ≠ gb108))))
      (case aS => exact (below_size (qS2 GE101 GE108 HB.out)))
      (case aL => have := LMc11.out; omega)
      intro v111 w61 ho hb hg hat
      rw [← Ny110.out] at ho
      replace BK101 := Aside0.mk (blk_grown (bq BK101.out) hg qqG)
      replace HO107 := Aside0.mk (Kd.N_afterv (Kd.N_apart_nil (qN HO107.out)) hg hat)
      replace BK108 := Aside0.mk (blk_grown (bq BK108.out) hg qqG)
      replace HL109_0 := Aside0.mk (Kd.V_afterv (Kd.V_apart_nil (qV HL109_0.out)) hg hat)
      replace HB := Aside0.mk (hb)
      have HO112 := Aside0.mk (ho)
      clear ho hb hg hat
      obtain ⟨Ao62, co62, eo62⟩ := Kd.N_slice HO112.out
      (first | subst eo62 | (injection eo62 with f1_ f2_ f3_; have f4_ := f1_.symm; have f5_ := f3_.symm; clear f1_ f2_ f3_; subst f4_; subst f5_))
      refine hK.out _ _ ⟨(blk_cell BK108.out 0).trans rfl, (blk_cell BK108.out 1).trans rfl, (blk_cell BK108.out 2).trans rfl⟩ (fun hHeld => ?_)
      clear hK K
      refine norm_ (a' := ?_) ?_ ?_
      rotate_left
      · show Act.put _ (some 47) _ = _
        simp only [Act.put, List.setIfInBounds_toArray, List.set_cons_zero, List.set_cons_succ, i64_w, i32_w]
        rfl
      refine pure_ (i := 7) (N := some 48) (v := ?_) (a' := ?_) #[true, true, true, true, true, true, true, true, false, false] rfl rfl (any_of HT_.out (by kernel_rfl)) (fun _ _ _ h => h) (Or.inl ⟨by rfl, ?_⟩) ?_ ?_
      rotate_left
      · intro w'
        go_simp
        with_reducible rfl
      rotate_left
      · simp only [Act.put, List.setIfInBounds_toArray, List.set_cons_zero, List.set_cons_succ, i64_w, i32_w]
        rfl
      refine one_ (i := 8) (N := some 11) #[true, true, true, true, true, true, true, true, true, false] rfl rfl (one_of HT_.out (by kernel_rfl)) (by decide) (fun K hK => ?_)
      refine box_step ?hg (N := 11) ?hd (cs := #[.int .i64 0, .int .i64 0, .slice none 0 0]) (t := 24) ?hr ?_; (case hd => rfl); (case hg => rfl); (case hr => exact qq9)
      intro gb113 hg w63 hbox hb
      replace HO107 := Aside0.mk (Kd.N_below (Kd.N_elderB (qN HO107.out) gb113 (Nat.le_of_eq hg.symm)) hb)
      replace HL109_0 := Aside0.mk (Kd.V_below (Kd.V_elderB (qV HL109_0.out) gb113 (Nat.le_of_eq hg.symm)) hb)
      replace HO112 := Aside0.mk (Kd.N_below (Kd.N_elderB (qN HO112.out) gb113 (Nat.le_of_eq hg.symm)) hb)
      have BK113 := Aside0.mk (hbox)
      have GW113 := Aside0.mk ((qqN : w.heap.size ≤ gb113))
      have GE113 := Aside0.mk ((qqN : w.heap.size ≤ gb113))
      replace HB := Aside0.mk (below_step (qS2 GE101 GE108 HB.out) hb)
      have NB101_113 := Aside0.mk ((qqc : gb101 ≠ gb113))
      have NB113_101 := Aside0.mk ((qqd : gb113 ≠ gb101))
      replace BK101 := Aside0.mk (blk_below (bq BK101.out) hb)
      have NB108_113 := Aside0.mk ((by rw [hg]; exact Nat.ne_of_lt (blk_lt (bq BK108.out)) : gb108 ≠ gb113))
      have NB113_108 := Aside0.mk ((by rw [hg]; exact Nat.ne_of_gt (blk_lt (bq BK108.out)) : gb113 ≠ gb108))
      replace BK108 := Aside0.mk (blk_below (bq BK108.out) hb)
      clear hb hbox hg
      refine hK.out _ _ ⟨(blk_cell BK108.out 0).trans rfl, (blk_cell BK108.out 1).trans rfl, (blk_cell BK108.out 2).trans rfl⟩ (fun hHeld => ?_)
      clear hK K
      refine norm_ (a' := ?_) ?_ ?_
      rotate_left
      · show Act.put _ (some 11) _ = _
        simp only [Act.put, List.setIfInBounds_toArray, List.set_cons_zero, List.set_cons_succ, i64_w, i32_w]
        rfl
      exact norm_ qqC (hCont (.slice Ao62 y110.length co62, gb113) _ ⟨hHeld, (by (with_reducible repeat (first | apply Kd.V_alloc | apply Kd.V_drewN | apply Kd.V_drew)); exact Kd.V_mono HL109_0.out (fun _ hk => ⟨hk.1.1.2, ⟨hk.1.2, ⟨hk.1.1.1.1, ⟨hk.1.1.1.2, hk.2⟩⟩⟩⟩)), (by (with_reducible repeat (first | apply Kd.N_alloc | apply Kd.N_drewN | apply Kd.N_drew)); exact Kd.N_mono HO107.out (fun _ hk => ⟨hk.1.2, ⟨hk.1.1.1, ⟨hk.1.1.2, hk.2⟩⟩⟩)), (by (with_reducible repeat (first | apply Kd.N_alloc | apply Kd.N_drewN | apply Kd.N_drew)); exact Kd.N_mono HO112.out (fun _ hk => ⟨hk.1.1, ⟨hk.1.2, hk.2⟩⟩)), (bq BK101.out), (bq BK108.out), (bq BK113.out), GW113.out, GE113.out, NB101_113.out, NB113_101.out, NB108_113.out, NB113_108.out, (qS3 GE101 GE108 GE113 HB.out)⟩)
    skip
    refine box_step ?hg (N := 11) ?hd (cs := #[.int .i64 0, .int .i64 0, .slice none 0 0]) (t := 24) ?hr ?_; (case hd => rfl); (case hg => rfl); (case hr => exact qq9)
    intro gb113 hg w61 hbox hb
    replace HO107 := Aside0.mk (Kd.N_below (Kd.N_elderB (qN HO107.out) gb113 (Nat.le_of_eq hg.symm)) hb)
    replace HL109_0 := Aside0.mk (Kd.V_below (Kd.V_elderB (qV HL109_0.out) gb113 (Nat.le_of_eq hg.symm)) hb)
    replace HR109_0 := Aside0.mk (Kd.C_below (by repeat (first | (with_reducible exact HR109_0.out) | (with_reducible refine Kd.C_alloc ?_ _) | (with_reducible refine Kd.C_drewN ?_ _) | (with_reducible refine Kd.C_drew ?_) | exact HR109_0.out)) hb)
    have BK113 := Aside0.mk (hbox)
    have GW113 := Aside0.mk ((qqN : w.heap.size ≤ gb113))
    have GE113 := Aside0.mk ((qqN : w.heap.size ≤ gb113))
    replace HB := Aside0.mk (below_step (qS2 GE101 GE108 HB.out) hb)
    have NB101_113 := Aside0.mk ((qqc : gb101 ≠ gb113))
    have NB113_101 := Aside0.mk ((qqd : gb113 ≠ gb101))
    replace BK101 := Aside0.mk (blk_below (bq BK101.out) hb)
    have NB108_113 := Aside0.mk ((by rw [hg]; exact Nat.ne_of_lt (blk_lt (bq BK108.out)) : gb108 ≠ gb113))
    have NB113_108 := Aside0.mk ((by rw [hg]; exact Nat.ne_of_gt (blk_lt (bq BK108.out)) : gb113 ≠ gb108))
    replace BK108 := Aside0.mk (blk_below (bq BK108.out) hb)
    clear hb hbox hg
    refine hK.out _ _ ⟨(blk_cell BK108.out 0).trans rfl, (blk_cell BK108.out 1).trans rfl, (blk_cell BK108.out 2).trans rfl⟩ (fun hHeld => ?_)
    clear hK K
    refine norm_ (a' := ?_) ?_ ?_
    rotate_left
    · show Act.put _ (some 11) _ = _
      simp only [Act.put, List.setIfInBounds_toArray, List.set_cons_zero, List.set_cons_succ, i64_w, i32_w]
      rfl
    refine one_ (i := 6) (N := some 47) #[true, true, true, true, true, true, true, false, true, false] rfl rfl (one_of HT_.out (by kernel_rfl)) (by decide) (fun K hK => ?_)
    refine Kd.N_append_rows_step (Kd.slice 28 k28) (w0 := w) w.heap.size rfl (.const (.slice none 0 0)) (.tmp 46) 22 30 (.slice none 0 0) 24 rfl Try.underlying22 info30 rfl (by decide) (by omega) (.slice none 0 0) ([] : List (List (S28))) t105 _ _ _ (fun k_ => k_ ≠ gb101 ∧ k_ ≠ gb108 ∧ k_ ≠ gb113) (fun k_ => ((fun k_ => k_ ≠ gb101 ∧ k_ ≠ gb108 ∧ k_ ≠ gb113)) k_ ∧ some k_ ≠ (.slice none 0 0 : Value).ownBlock) rfl rfl ?aO ?aR (fun _ hk => hk) ?aF ?aB ?aS ?aL ?_
    (case aR => exact (by skip; exact Kd.N_F (Kd.N_mono (ok' := (fun k_ => ((fun k_ => k_ ≠ gb101 ∧ k_ ≠ gb108 ∧ k_ ≠ gb113)) k_ ∧ some k_ ≠ (.slice none 0 0 : Value).ownBlock)) (HO107.out) (fun k_ hk => ⟨⟨hk.1.1, ⟨hk.1.2, hk.2⟩⟩, qqG⟩))))
    (case aB => exact (qS3 GE101 GE108 GE113 HB.out))
    (case aF => exact (fun k_ hk => ⟨Kd.freshB (bq BK101.out) k_ hk, Kd.freshB (bq BK108.out) k_ hk, Kd.freshB (bq BK113.out) k_ hk⟩))
    (case aO => exact ((Kd.N_nil _ _ _ _ (fun k_ => k_ ≠ gb101 ∧ k_ ≠ gb108 ∧ k_ ≠ gb113))))
    (case aS => exact qq10)
    (case aL => have := LMc11.out; omega)
    intro v111 w62 ho hb hg hat
    rw [← Ny110.out] at ho
    replace BK101 := Aside0.mk (blk_grown (bq BK101.out) hg qqG)
    replace HO107 := Aside0.mk (Kd.N_afterv (Kd.N_apart_nil (qN HO107.out)) hg hat)
    replace BK108 := Aside0.mk (blk_grown (bq BK108.out) hg qqG)
    replace HL109_0 := Aside0.mk (Kd.V_afterv (Kd.V_apart_nil (qV HL109_0.out)) hg hat)
    replace BK113 := Aside0.mk (blk_grown (bq BK113.out) hg qqG)
    replace HB := Aside0.mk (hb)
    have HO112 := Aside0.mk (ho)
    clear ho hb hg hat
    obtain ⟨Ao63, co63, eo63⟩ := Kd.N_slice HO112.out
    (first | subst eo63 | (injection eo63 with f1_ f2_ f3_; have f4_ := f1_.symm; have f5_ := f3_.symm; clear f1_ f2_ f3_; subst f4_; subst f5_))
    refine hK.out _ _ ⟨(blk_cell BK108.out 0).trans rfl, (blk_cell BK108.out 1).trans rfl, (blk_cell BK108.out 2).trans rfl⟩ (fun hHeld => ?_)
    clear hK K
    refine norm_ (a' := ?_) ?_ ?_
    rotate_left
    · show Act.put _ (some 47) _ = _
      simp only [Act.put, List.setIfInBounds_toArray, List.set_cons_zero, List.set_cons_succ, i64_w, i32_w]
      rfl
    refine pure_ (i := 7) (N := some 48) (v := ?_) (a' := ?_) #[true, true, true, true, true, true, true, true, true, false] rfl rfl (any_of HT_.out (by kernel_rfl)) (fun _ _ _ h => h) (Or.inl ⟨by rfl, ?_⟩) ?_ ?_
    rotate_left
    · intro w'
      go_simp
      with_reducible rfl
    rotate_left
    · simp only [Act.put, List.setIfInBounds_toArray, List.set_cons_zero, List.set_cons_succ, i64_w, i32_w]
      rfl
    exact norm_ qqC (hCont (.slice Ao63 y110.length co63, gb113) _ ⟨hHeld, (by (with_reducible repeat (first | apply Kd.V_alloc | apply Kd.V_drewN | apply Kd.V_drew)); exact Kd.V_mono HL109_0.out (fun _ hk => ⟨hk.1.1.2, ⟨hk.2, ⟨hk.1.1.1.1, ⟨hk.1.1.1.2, hk.1.2⟩⟩⟩⟩)), (by (with_reducible repeat (first | apply Kd.N_alloc | apply Kd.N_drewN | apply Kd.N_drew)); exact Kd.N_mono HO107.out (fun _ hk => ⟨hk.2, ⟨hk.1.1.1, ⟨hk.1.1.2, hk.1.2⟩⟩⟩)), (qN HO112.out), (bq BK101.out), (bq BK108.out), (bq BK113.out), GW113.out, GE113.out, NB101_113.out, NB113_101.out, NB108_113.out, NB113_108.out, (qS3 GE101 GE108 GE113 HB.out)⟩)
  rintro ⟨v111, gb113⟩ w64 ⟨hS_, h0_, h1_, h2_, h3_, h4_, h5_, h6_, h7_, h8_, h9_, h10_, h11_, h12_⟩
  have n0_ : Aside0 (Kd.V k28 28 w64 w.heap.size (fun k_ => some k_ ≠ (.slice (some ad109) t105.length co57 : Value).ownBlock ∧ some k_ ≠ (v111 : Value).ownBlock ∧ k_ ≠ gb101 ∧ k_ ≠ gb108 ∧ k_ ≠ gb113) (.slice A109_0 (rd_L3 t105 (ji8)).length c109_0) (rd_L3 t105 (ji8))) := ⟨h0_⟩
  have n1_ : Aside0 (Kd.N (Kd.slice 28 k28) 30 w64 w.heap.size (fun k_ => some k_ ≠ (v111 : Value).ownBlock ∧ k_ ≠ gb101 ∧ k_ ≠ gb108 ∧ k_ ≠ gb113) (.slice (some ad109) t105.length co57) t105) := ⟨h1_⟩
  have n2_ : Aside0 (Kd.N (Kd.slice 28 k28) 30 w64 w.heap.size (fun k_ => k_ ≠ gb101 ∧ k_ ≠ gb108 ∧ k_ ≠ gb113) v111 y110) := ⟨h2_⟩
  have n3_ : Aside0 (w64.heap[gb101]? = some (.cells #[.int .i64 a0_0, .int .i64 a0_1, .slice A0_2 l0_2.length c0_2] 24 (0, 0))) := ⟨h3_⟩
  have n4_ : Aside0 (w64.heap[gb108]? = some (.cells #[.int .i64 t103, .int .i64 t104, .slice (some ad109) t105.length co57] 24 (0, 0))) := ⟨h4_⟩
  have n5_ : Aside0 (w64.heap[gb113]? = some (.cells #[.int .i64 0, .int .i64 0, .slice none 0 0] 24 (0, 0))) := ⟨h5_⟩
  have n6_ : Aside0 (w.heap.size ≤ gb113) := ⟨h6_⟩
  have n7_ : Aside0 (w.heap.size ≤ gb113) := ⟨h7_⟩
  have n8_ : Aside0 (gb101 ≠ gb113) := ⟨h8_⟩
  have n9_ : Aside0 (gb113 ≠ gb101) := ⟨h9_⟩
  have n10_ : Aside0 (gb108 ≠ gb113) := ⟨h10_⟩
  have n11_ : Aside0 (gb113 ≠ gb108) := ⟨h11_⟩
  have n12_ : Aside0 (Below w.heap.size w w64) := ⟨h12_⟩
  clear HO107
  clear HL109_0
  clear BK101
  clear BK108
  clear HR109_0
  clear HB
  clear h0_ h1_ h2_ h3_ h4_ h5_ h6_ h7_ h8_ h9_ h10_ h11_ h12_
  have HL109_0 := n0_
  have HO107 := n1_
  have HO112 := n2_
  have BK101 := n3_
  have BK108 := n4_
  have BK113 := n5_
  have GW113 := n6_
  have GE113 := n7_
  have NB101_113 := n8_
  have NB113_101 := n9_
  have NB108_113 := n10_
  have NB113_108 := n11_
  have HB := n12_
  clear n0_ n1_ n2_ n3_ n4_ n5_ n6_ n7_ n8_ n9_ n10_ n11_ n12_
  have hHeld : w64.cell? ⟨gb108, 0, none⟩ = some (.int .i64 t103) ∧ w64.cell? ⟨gb108, 1, none⟩ = some (.int .i64 t104) ∧ w64.cell? ⟨gb108, 2, none⟩ = some (.slice (some ad109) t105.length co57) := hS_
  obtain ⟨Ao65, co65, eo65⟩ := Kd.N_slice HO112.out
  (first | subst eo65 | (injection eo65 with f1_ f2_ f3_; have f4_ := f1_.symm; have f5_ := f3_.symm; clear f1_ f2_ f3_; subst f4_; subst f5_))
  refine norm_ (a' := ?_) ?_ ?_
  rotate_left
  · simp only [putAll, Act.put, List.setIfInBounds_toArray, List.set_cons_zero, List.set_cons_succ]
    rfl
  refine one_ (i := 9) (N := none) #[true, true, true, true, true, true, true, true, true, true] rfl rfl (one_of HT_.out (by kernel_rfl)) (by decide) (fun K hK => ?_)
  have hs66 : w64.cell? ⟨gb113, 0, none⟩ = some (.int .i64 0) := (blk_cell BK113.out 0).trans rfl
  have hfs66 := blk_frozen BK113.out 0
  have hns66_0 := NB101_113.out
  have hns66_1 := NB108_113.out
  have hms66_0 := NB113_101.out
  have hms66_1 := NB113_108.out
  have hs67 : w64.cell? ⟨gb113, 1, none⟩ = some (.int .i64 0) := (blk_cell BK113.out 1).trans rfl
  have hfs67 := blk_frozen BK113.out 1
  have hns67_0 := NB101_113.out
  have hns67_1 := NB108_113.out
  have hms67_0 := NB113_101.out
  have hms67_1 := NB113_108.out
  have hs68 : w64.cell? ⟨gb113, 2, none⟩ = some (.slice none 0 0) := (blk_cell BK113.out 2).trans rfl
  have hfs68 := blk_frozen BK113.out 2
  have hns68_0 := NB101_113.out
  have hns68_1 := NB108_113.out
  have hms68_0 := NB113_101.out
  have hms68_1 := NB113_108.out
  refine skip_ (w1 := ?_) (by rfl) rfl ?_ ?_
  rotate_left
  · go_simp
    rfl
  refine hK.out _ _ ⟨((cell_far (p := ⟨gb113, _, none⟩) NB108_113.out _).trans (((cell_far (p := ⟨gb113, _, none⟩) NB108_113.out _).trans (((cell_far (p := ⟨gb113, _, none⟩) NB108_113.out _).trans (hHeld.1)))))), ((cell_far (p := ⟨gb113, _, none⟩) NB108_113.out _).trans (((cell_far (p := ⟨gb113, _, none⟩) NB108_113.out _).trans (((cell_far (p := ⟨gb113, _, none⟩) NB108_113.out _).trans (hHeld.2.1)))))), ((cell_far (p := ⟨gb113, _, none⟩) NB108_113.out _).trans (((cell_far (p := ⟨gb113, _, none⟩) NB108_113.out _).trans (((cell_far (p := ⟨gb113, _, none⟩) NB108_113.out _).trans (hHeld.2.2))))))⟩ (fun hHeld => ?_)
  clear hK K
  refine done_ (done_of HT_.out (by kernel_rfl)) ?_
  try go_wp2
  have n0_ : Aside0 (Kd.N (Kd.slice 28 k28) 30 (((w64.setCell ⟨gb113, 0, none⟩ (.int .i64 t103)).setCell ⟨gb113, 1, none⟩ (.int .i64 t104)).setCell ⟨gb113, 2, none⟩ (.slice Ao65 y110.length co65)) w.heap.size (fun k_ => some k_ ≠ (.slice Ao65 y110.length co65 : Value).ownBlock ∧ k_ ≠ gb101 ∧ k_ ≠ gb108 ∧ k_ ≠ gb113) (.slice (some ad109) t105.length co57) t105) := ⟨by (with_reducible repeat (first | apply Kd.N_alloc | apply Kd.N_drewN | apply Kd.N_drew)); exact Kd.N_mono (Kd.N_far (p := ⟨gb113, 2, none⟩) (Kd.N_far (p := ⟨gb113, 1, none⟩) (Kd.N_far (p := ⟨gb113, 0, none⟩) (Kd.N_mono HO107.out (fun k_ hk => (⟨hk, hk.2.2.2⟩ : _ ∧ k_ ≠ gb113))) (fun _ hk => hk.2) (.int .i64 t103)) (fun _ hk => hk.2) (.int .i64 t104)) (fun _ hk => hk.2) (.slice Ao65 y110.length co65)) (fun _ hk => ⟨hk.1.1, ⟨hk.1.2.1, ⟨hk.1.2.2.1, hk.1.2.2.2⟩⟩⟩)⟩
  have n1_ : Aside0 (Kd.V k28 28 (((w64.setCell ⟨gb113, 0, none⟩ (.int .i64 t103)).setCell ⟨gb113, 1, none⟩ (.int .i64 t104)).setCell ⟨gb113, 2, none⟩ (.slice Ao65 y110.length co65)) w.heap.size (fun k_ => some k_ ≠ (.slice (some ad109) t105.length co57 : Value).ownBlock ∧ some k_ ≠ (.slice Ao65 y110.length co65 : Value).ownBlock ∧ k_ ≠ gb101 ∧ k_ ≠ gb108 ∧ k_ ≠ gb113) (.slice A109_0 (rd_L3 t105 (ji8)).length c109_0) (rd_L3 t105 (ji8))) := ⟨by (with_reducible repeat (first | apply Kd.V_alloc | apply Kd.V_drewN | apply Kd.V_drew)); exact Kd.V_mono (Kd.V_far (p := ⟨gb113, 2, none⟩) (Kd.V_far (p := ⟨gb113, 1, none⟩) (Kd.V_far (p := ⟨gb113, 0, none⟩) (Kd.V_mono HL109_0.out (fun k_ hk => (⟨hk, hk.2.2.2.2⟩ : _ ∧ k_ ≠ gb113))) (fun _ hk => hk.2) (.int .i64 t103)) (fun _ hk => hk.2) (.int .i64 t104)) (fun _ hk => hk.2) (.slice Ao65 y110.length co65)) (fun _ hk => ⟨hk.1.1, ⟨hk.1.2.1, ⟨hk.1.2.2.1, ⟨hk.1.2.2.2.1, hk.1.2.2.2.2⟩⟩⟩⟩)⟩
  have n2_ : Aside0 (Kd.N (Kd.slice 28 k28) 30 (((w64.setCell ⟨gb113, 0, none⟩ (.int .i64 t103)).setCell ⟨gb113, 1, none⟩ (.int .i64 t104)).setCell ⟨gb113, 2, none⟩ (.slice Ao65 y110.length co65)) w.heap.size (fun k_ => k_ ≠ gb101 ∧ k_ ≠ gb108 ∧ k_ ≠ gb113) (.slice Ao65 y110.length co65) y110) := ⟨by (with_reducible repeat (first | apply Kd.N_alloc | apply Kd.N_drewN | apply Kd.N_drew)); exact Kd.N_mono (Kd.N_far (p := ⟨gb113, 2, none⟩) (Kd.N_far (p := ⟨gb113, 1, none⟩) (Kd.N_far (p := ⟨gb113, 0, none⟩) (Kd.N_mono HO112.out (fun k_ hk => (⟨hk, hk.2.2⟩ : _ ∧ k_ ≠ gb113))) (fun _ hk => hk.2) (.int .i64 t103)) (fun _ hk => hk.2) (.int .i64 t104)) (fun _ hk => hk.2) (.slice Ao65 y110.length co65)) (fun _ hk => ⟨hk.1.1, ⟨hk.1.2.1, hk.1.2.2⟩⟩)⟩
  have n3_ : Aside0 ((((w64.setCell ⟨gb113, 0, none⟩ (.int .i64 t103)).setCell ⟨gb113, 1, none⟩ (.int .i64 t104)).setCell ⟨gb113, 2, none⟩ (.slice Ao65 y110.length co65)).heap[gb101]? = some (.cells #[.int .i64 a0_0, .int .i64 a0_1, .slice A0_2 l0_2.length c0_2] 24 (0, 0))) := ⟨by (with_reducible repeat (first | refine blk_drewN ?_ _ | refine blk_drew ?_ | refine blk_alloc ?_ _)); refine blk_far ?_ NB101_113.out _; (with_reducible repeat (first | refine blk_drewN ?_ _ | refine blk_drew ?_ | refine blk_alloc ?_ _)); refine blk_far ?_ NB101_113.out _; (with_reducible repeat (first | refine blk_drewN ?_ _ | refine blk_drew ?_ | refine blk_alloc ?_ _)); refine blk_far ?_ NB101_113.out _; (with_reducible repeat (first | refine blk_drewN ?_ _ | refine blk_drew ?_ | refine blk_alloc ?_ _)); exact BK101.out⟩
  have n4_ : Aside0 ((((w64.setCell ⟨gb113, 0, none⟩ (.int .i64 t103)).setCell ⟨gb113, 1, none⟩ (.int .i64 t104)).setCell ⟨gb113, 2, none⟩ (.slice Ao65 y110.length co65)).heap[gb108]? = some (.cells #[.int .i64 t103, .int .i64 t104, .slice (some ad109) t105.length co57] 24 (0, 0))) := ⟨by (with_reducible repeat (first | refine blk_drewN ?_ _ | refine blk_drew ?_ | refine blk_alloc ?_ _)); refine blk_far ?_ NB108_113.out _; (with_reducible repeat (first | refine blk_drewN ?_ _ | refine blk_drew ?_ | refine blk_alloc ?_ _)); refine blk_far ?_ NB108_113.out _; (with_reducible repeat (first | refine blk_drewN ?_ _ | refine blk_drew ?_ | refine blk_alloc ?_ _)); refine blk_far ?_ NB108_113.out _; (with_reducible repeat (first | refine blk_drewN ?_ _ | refine blk_drew ?_ | refine blk_alloc ?_ _)); exact BK108.out⟩
  have n5_ : Aside0 ((((w64.setCell ⟨gb113, 0, none⟩ (.int .i64 t103)).setCell ⟨gb113, 1, none⟩ (.int .i64 t104)).setCell ⟨gb113, 2, none⟩ (.slice Ao65 y110.length co65)).heap[gb113]? = some (.cells #[.int .i64 t103, .int .i64 t104, .slice Ao65 y110.length co65] 24 (0, 0))) := ⟨by (with_reducible repeat (first | refine blk_drewN ?_ _ | refine blk_drew ?_ | refine blk_alloc ?_ _)); refine blk_put (cs := #[.int .i64 t103, .int .i64 t104, .slice none 0 0]) ?_ 2 _ rfl; (with_reducible repeat (first | refine blk_drewN ?_ _ | refine blk_drew ?_ | refine blk_alloc ?_ _)); refine blk_put (cs := #[.int .i64 t103, .int .i64 0, .slice none 0 0]) ?_ 1 _ rfl; (with_reducible repeat (first | refine blk_drewN ?_ _ | refine blk_drew ?_ | refine blk_alloc ?_ _)); refine blk_put (cs := #[.int .i64 0, .int .i64 0, .slice none 0 0]) ?_ 0 _ rfl; (with_reducible repeat (first | refine blk_drewN ?_ _ | refine blk_drew ?_ | refine blk_alloc ?_ _)); exact BK113.out⟩
  have n6_ : Aside0 (Below w.heap.size w (((w64.setCell ⟨gb113, 0, none⟩ (.int .i64 t103)).setCell ⟨gb113, 1, none⟩ (.int .i64 t104)).setCell ⟨gb113, 2, none⟩ (.slice Ao65 y110.length co65))) := ⟨qS3 GE101 GE108 GE113 HB.out⟩
  (try clear HO107)
  (try clear HL109_0)
  (try clear HO112)
  (try clear BK101)
  (try clear BK108)
  (try clear BK113)
  (try clear HB)
  generalize (((w64.setCell ⟨gb113, 0, none⟩ (.int .i64 t103)).setCell ⟨gb113, 1, none⟩ (.int .i64 t104)).setCell ⟨gb113, 2, none⟩ (.slice Ao65 y110.length co65)) = w69 at n0_ n1_ n2_ n3_ n4_ n5_ n6_ ⊢
  have HO107 := n0_
  have HL109_0 := n1_
  have HO112 := n2_
  have BK101 := n3_
  have BK108 := n4_
  have BK113 := n5_
  have HB := n6_
  clear n0_ n1_ n2_ n3_ n4_ n5_ n6_
  replace HO107 := Aside0.mk (Kd.N_drew HO107.out)
  replace HL109_0 := Aside0.mk (Kd.V_drew HL109_0.out)
  replace HO112 := Aside0.mk (Kd.N_drew HO112.out)
  replace BK101 := Aside0.mk (blk_drew BK101.out)
  replace BK108 := Aside0.mk (blk_drew BK108.out)
  replace BK113 := Aside0.mk (blk_drew BK113.out)
  replace HB := Aside0.mk (below_drew1 HB.out)
  have q71 : ((ji12) : Int) ≤ (((rd_L3 t105 (ji8)).length : Int) : Int) := of_decide_eq_true qq5
  obtain ⟨i071, hi071, _, hsz71, _⟩ := info_parts info28
  have hroom71 : (rd_L3 t105 (ji8)).length ≤ c109_0 := HC109_0.out
  have hC71 : Kd.F k28 _ _ A109_0 (rd_L3 t105 (ji8)).length (rd_L3 t105 (ji8)) := (Kd.V_at (base := w.heap.size) HL109_0.out).2.2
  have hcut71 := cut_to (P := Try.prog) 30 28 .i64 Try.underlying30 hi071 A109_0 (rd_L3 t105 (ji8)).length c109_0 (ji12) (of_decide_eq_true qq5) q71 hroom71
  have hr71 := Kd.F_take (m := ((ji12) : Int).toNat) hC71 (by omega)
  have hy71 : y114.length = ((ji12) : Int).toNat := (by rw [Ny114.out, List.length_take]; omega)
  rw [← Ny114.out] at hr71
  rw [← hy71] at hcut71
  have HO118 := Aside0.mk (show Kd.V k28 28 _ w.heap.size _ (.slice A109_0 y114.length c109_0) y114 from Kd.V_mk (by omega) hr71)
  have HC118 := Aside0.mk (show y114.length ≤ c109_0 from by omega)
  clear hr71 hC71 hroom71 hi071 hsz71
  have KY71 := Aside0.mk hy71
  clear hy71
  replace q71 := eq_true q71
  have p16 : 0 ≤ ((ji8) : Int) := of_decide_eq_true qq5
  have q16 : ((ji8) : Int) < ((y110.length : Int) : Int) := of_decide_eq_true qq5
  obtain ⟨go16, co16, eo16, gb16, gl16, cl16, HG16⟩ := Kd.N_form HO112.out (by omega)
  (first | cases eo16 | (injection eo16 with ea_ en_ ec_; (first | subst ea_ | (injection ea_ with ea_; subst ea_)); subst ec_; clear en_))
  have GB16 := Aside0.mk gb16
  have GG16 := Aside0.mk HG16
  clear gb16 gl16 HG16
  obtain ⟨ce16, hcl16, hM16, hcc16, hfr16⟩ := Kd.N_elem HO112.out [] ((ji8) : Int) p16 q16
  obtain ⟨ua16_0, uc16_0, rfl, ul16_0, ge16_0⟩ := Kd.FK_slice_open hM16
  have hx16_0 := hcc16 0 _ rfl
  have hf16_0 := hfr16 0
  (try simp only [show ((Kd.slice 28 k28)).sz = 1 from rfl, Nat.mul_one, Nat.add_zero] at hx16_0)
  (try simp only [show ((Kd.slice 28 k28)).sz = 1 from rfl, Nat.mul_one, Nat.add_zero] at hf16_0)
  clear hcl16 hcc16 hfr16 hM16
  replace p16 := eq_true p16
  replace q16 := eq_true q16
  have HX72 := Aside0.mk (show Kd.N (Kd.slice 28 k28) 30 _ w.heap.size (fun k_ => k_ ≠ gb101 ∧ k_ ≠ gb108 ∧ k_ ≠ gb113) (.slice (some ⟨go16, 0, none⟩) y110.length co65) y110 from (Kd.N_mono (HO112.out) (fun k_ hk => ⟨hk.1, ⟨hk.2.1, hk.2.2⟩⟩)))
  obtain ⟨ce72, hcl72, hM72, hcc72, hfr72⟩ := Kd.N_elem HX72.out [] ((ji8) : Int) (of_decide_eq_true qq5) qqu
  obtain ⟨ua72_0, uc72_0, rfl, ul72_0, ge72_0⟩ := Kd.FK_slice_open hM72
  have HP72 := (Kd.N_seg HX72.out ((ji8) : Int) (of_decide_eq_true qq5) qqu (seg := [.slice A109_0 y114.length c109_0]) (j := 0) hcl72 hcc72 (show 1 ≤ 1 from by decide) (x' := y114) (Kd.FK_slice_mk (Kd.V_reads' (Kd.V_mono (ok' := (fun k_ => ((fun k_ => k_ ≠ gb101 ∧ k_ ≠ gb108 ∧ k_ ≠ gb113)) k_ ∧ k_ ≠ go16)) (HO118.out) (fun k_ hk => ⟨⟨hk.2.2.1, ⟨hk.2.2.2.1, hk.2.2.2.2⟩⟩, fun e_ => (hk.2.1) qqI⟩))).2.1 (Kd.V_F (Kd.V_mono (ok' := (fun k_ => ((fun k_ => k_ ≠ gb101 ∧ k_ ≠ gb108 ∧ k_ ≠ gb113)) k_ ∧ k_ ≠ go16)) (HO118.out) (fun k_ hk => ⟨⟨hk.2.2.1, ⟨hk.2.2.2.1, hk.2.2.2.2⟩⟩, fun e_ => (hk.2.1) qqI⟩)))) (fun _ hk => hk)).1
  (try simp only [show ((Kd.slice 28 k28)).sz = 1 from rfl, Nat.mul_one, Nat.add_zero] at HP72)
  rw [← Ny119.out] at HP72
  have HQ72 := Aside0.mk HP72
  clear hcl72 hcc72 hfr72 hM72 HP72
  refine start_ (n := 10) (S := fun w' => w'.cell? ⟨gb113, 0, none⟩ = some (.int .i64 t103) ∧ w'.cell? ⟨gb113, 1, none⟩ = some (.int .i64 t104) ∧ w'.cell? ⟨gb113, 2, none⟩ = some (.slice (some ⟨go16, 0, none⟩) y110.length co65)) (ds := [9]) #[false, false, false, false, false, false, false, false, false, false] (by kernel_rfl) rfl rfl ⟨(blk_cell BK113.out 0).trans rfl, (blk_cell BK113.out 1).trans rfl, (blk_cell BK113.out 2).trans rfl⟩ (fun hHeld => ?_); refine with_tabW partitalaw16_SmfEnds.tab8 partitalaw16_SmfEnds.bits8 (fun HT_ HW_ => ?_)
  generalize w69.drew = w70 at HO107 HL109_0 HO112 BK101 BK108 BK113 HB GG16 HO118 HQ72 hf16_0 hx16_0 hHeld ⊢
  refine pure_ (i := 0) (N := some 49) (v := ?_) (a' := ?_) #[true, false, false, false, false, false, false, false, false, false] rfl rfl (any_of HT_.out (by kernel_rfl)) (fun _ _ _ h => h) (Or.inl ⟨by rfl, ?_⟩) ?_ ?_
  rotate_left
  · intro w'
    go_simp
    with_reducible rfl
  rotate_left
  · simp only [Act.put, List.setIfInBounds_toArray, List.set_cons_zero, List.set_cons_succ, i64_w, i32_w]
    rfl
  refine pure_ (i := 2) (N := some 51) (v := ?_) (a' := ?_) #[true, false, true, false, false, false, false, false, false, false] rfl rfl (any_of HT_.out (by kernel_rfl)) (fun _ _ _ h => h) (Or.inl ⟨by rfl, ?_⟩) ?_ ?_
  rotate_left
  · intro w'
    go_simp
    with_reducible rfl
  rotate_left
  · simp only [Act.put, List.setIfInBounds_toArray, List.set_cons_zero, List.set_cons_succ, i64_w, i32_w]
    rfl
  refine pure_ (i := 3) (N := some 52) (v := ?_) (a' := ?_) #[true, false, true, true, false, false, false, false, false, false] rfl rfl (any_of HT_.out (by kernel_rfl)) (fun _ _ _ h => h) (Or.inl ⟨by rfl, ?_⟩) ?_ ?_
  rotate_left
  · intro w'
    go_simp
    with_reducible rfl
  rotate_left
  · simp only [Act.put, List.setIfInBounds_toArray, List.set_cons_zero, List.set_cons_succ, i64_w, i32_w]
    rfl
  refine pure_ (i := 4) (N := some 53) (v := ?_) (a' := ?_) #[true, false, true, true, true, false, false, false, false, false] rfl rfl (any_of HT_.out (by kernel_rfl)) (fun _ _ _ h => h) (Or.inl ⟨by rfl, ?_⟩) ?_ ?_
  rotate_left
  · intro w'
    go_simp
    with_reducible rfl
  rotate_left
  · simp only [Act.put, List.setIfInBounds_toArray, List.set_cons_zero, List.set_cons_succ, i64_w, i32_w]
    rfl
  refine pure_ (i := 5) (N := some 54) (v := ?_) (a' := ?_) #[true, false, true, true, true, true, false, false, false, false] rfl rfl (any_of HT_.out (by kernel_rfl)) (fun _ _ _ h => h) (Or.inl ⟨by rfl, ?_⟩) ?_ ?_
  rotate_left
  · intro w'
    go_simp
    with_reducible rfl
  rotate_left
  · simp only [Act.put, List.setIfInBounds_toArray, List.set_cons_zero, List.set_cons_succ, i64_w, i32_w]
    rfl
  refine pure_ (i := 6) (N := some 55) (v := ?_) (a' := ?_) #[true, false, true, true, true, true, true, false, false, false] rfl rfl (any_of HT_.out (by kernel_rfl)) (fun _ _ _ h => h) (Or.inl ⟨by rfl, ?_⟩) ?_ ?_
  rotate_left
  · intro w'
    go_simp
    with_reducible rfl
  rotate_left
  · simp only [Act.put, List.setIfInBounds_toArray, List.set_cons_zero, List.set_cons_succ, i64_w, i32_w]
    rfl
  refine pure_ (i := 7) (N := some 56) (v := ?_) (a' := ?_) #[true, false, true, true, true, true, true, true, false, false] rfl rfl (any_of HT_.out (by kernel_rfl)) (fun _ _ _ h => h) (Or.inl ⟨by rfl, ?_⟩) ?_ ?_
  rotate_left
  · intro w'
    go_simp
    with_reducible rfl
  rotate_left
  · simp only [Act.put, List.setIfInBounds_toArray, List.set_cons_zero, List.set_cons_succ, i64_w, i32_w]
    rfl
  refine take_ (i := 1) (N := some 50) (v := ?_) (a' := ?_) #[true, true, true, true, true, true, true, true, false, false] rfl rfl (take_ofW HT_.out HW_.out (by kernel_rfl)) (fun _ _ _ h => h) (Or.inl ⟨by rfl, ?_⟩) hHeld ?_ ?_
  rotate_left
  · rintro w' ⟨s0, s1, s2⟩
    go_simp
    with_reducible rfl
  rotate_left
  · simp only [Act.put, List.setIfInBounds_toArray, List.set_cons_zero, List.set_cons_succ, i64_w, i32_w]
    rfl
  refine pure_ (i := 8) (N := some 57) (v := ?_) (a' := ?_) #[true, true, true, true, true, true, true, true, true, false] rfl rfl (any_of HT_.out (by kernel_rfl)) (fun _ _ _ h => h) (Or.inl ⟨by rfl, ?_⟩) ?_ ?_
  rotate_left
  · intro w'
    go_simp
    with_reducible rfl
  rotate_left
  · simp only [Act.put, List.setIfInBounds_toArray, List.set_cons_zero, List.set_cons_succ, i64_w, i32_w]
    rfl
  refine last_ (i := 9) (N := none) #[true, true, true, true, true, true, true, true, true, true] rfl rfl (one_of HT_.out (by kernel_rfl)) (by decide) (fun K hK => ?_)
  refine skip_ (w1 := ?_) (by rfl) rfl ?_ ?_
  rotate_left
  · go_simp
    rfl
  refine hK.out _ _ ?_
  clear hK K
  refine done_ (done_of HT_.out (by kernel_rfl)) ?_
  have n0_ : Aside0 (Kd.N (Kd.slice 28 k28) 30 (w70.setCell ⟨go16, ((ji8) : Int).toNat, none⟩ (.slice A109_0 y114.length c109_0)) w.heap.size (fun k_ => some k_ ≠ (.slice (some ⟨go16, 0, none⟩) y110.length co65 : Value).ownBlock ∧ k_ ≠ gb101 ∧ k_ ≠ gb108 ∧ k_ ≠ gb113) (.slice (some ad109) t105.length co57) t105) := ⟨by (with_reducible repeat (first | apply Kd.N_alloc | apply Kd.N_drewN | apply Kd.N_drew)); exact Kd.N_mono (Kd.N_far (p := ⟨go16, ((ji8) : Int).toNat, none⟩) (Kd.N_mono HO107.out (fun k_ hk => (⟨hk, fun e_ => hk.1 qqI⟩ : _ ∧ k_ ≠ go16))) (fun _ hk => hk.2) (.slice A109_0 y114.length c109_0)) (fun _ hk => ⟨hk.1.1, ⟨hk.1.2.1, ⟨hk.1.2.2.1, hk.1.2.2.2⟩⟩⟩)⟩
  have n1_ : Aside0 (Kd.V k28 28 (w70.setCell ⟨go16, ((ji8) : Int).toNat, none⟩ (.slice A109_0 y114.length c109_0)) w.heap.size (fun k_ => some k_ ≠ (.slice (some ad109) t105.length co57 : Value).ownBlock ∧ some k_ ≠ (.slice (some ⟨go16, 0, none⟩) y110.length co65 : Value).ownBlock ∧ k_ ≠ gb101 ∧ k_ ≠ gb108 ∧ k_ ≠ gb113) (.slice A109_0 (rd_L3 t105 (ji8)).length c109_0) (rd_L3 t105 (ji8))) := ⟨by (with_reducible repeat (first | apply Kd.V_alloc | apply Kd.V_drewN | apply Kd.V_drew)); exact Kd.V_mono (Kd.V_far (p := ⟨go16, ((ji8) : Int).toNat, none⟩) (Kd.V_mono HL109_0.out (fun k_ hk => (⟨hk, fun e_ => hk.2.1 qqI⟩ : _ ∧ k_ ≠ go16))) (fun _ hk => hk.2) (.slice A109_0 y114.length c109_0)) (fun _ hk => ⟨hk.1.1, ⟨hk.1.2.1, ⟨hk.1.2.2.1, ⟨hk.1.2.2.2.1, hk.1.2.2.2.2⟩⟩⟩⟩)⟩
  have n2_ : Aside0 (Kd.N (Kd.slice 28 k28) 30 (w70.setCell ⟨go16, ((ji8) : Int).toNat, none⟩ (.slice A109_0 y114.length c109_0)) w.heap.size (fun k_ => k_ ≠ gb101 ∧ k_ ≠ gb108 ∧ k_ ≠ gb113) (.slice (some ⟨go16, 0, none⟩) y110.length co65) y119) := ⟨qN HQ72.out⟩
  have n3_ : Aside0 (Kd.V k28 28 (w70.setCell ⟨go16, ((ji8) : Int).toNat, none⟩ (.slice A109_0 y114.length c109_0)) w.heap.size (fun k_ => some k_ ≠ (.slice (some ad109) t105.length co57 : Value).ownBlock ∧ some k_ ≠ (.slice (some ⟨go16, 0, none⟩) y110.length co65 : Value).ownBlock ∧ k_ ≠ gb101 ∧ k_ ≠ gb108 ∧ k_ ≠ gb113) (.slice A109_0 y114.length c109_0) y114) := ⟨by (with_reducible repeat (first | apply Kd.V_alloc | apply Kd.V_drewN | apply Kd.V_drew)); exact Kd.V_mono (Kd.V_far (p := ⟨go16, ((ji8) : Int).toNat, none⟩) (Kd.V_mono HO118.out (fun k_ hk => (⟨hk, fun e_ => hk.2.1 qqI⟩ : _ ∧ k_ ≠ go16))) (fun _ hk => hk.2) (.slice A109_0 y114.length c109_0)) (fun _ hk => ⟨hk.1.1, ⟨hk.1.2.1, ⟨hk.1.2.2.1, ⟨hk.1.2.2.2.1, hk.1.2.2.2.2⟩⟩⟩⟩)⟩
  have n4_ : Aside0 ((w70.setCell ⟨go16, ((ji8) : Int).toNat, none⟩ (.slice A109_0 y114.length c109_0)).heap[gb101]? = some (.cells #[.int .i64 a0_0, .int .i64 a0_1, .slice A0_2 l0_2.length c0_2] 24 (0, 0))) := ⟨by (with_reducible repeat (first | refine blk_drewN ?_ _ | refine blk_drew ?_ | refine blk_alloc ?_ _)); refine blk_far ?_ (by have h_ := Kd.N_away HO112.out (fun _ hk => hk.1); intro e_; exact h_ qqI) _; (with_reducible repeat (first | refine blk_drewN ?_ _ | refine blk_drew ?_ | refine blk_alloc ?_ _)); exact BK101.out⟩
  have n5_ : Aside0 ((w70.setCell ⟨go16, ((ji8) : Int).toNat, none⟩ (.slice A109_0 y114.length c109_0)).heap[gb108]? = some (.cells #[.int .i64 t103, .int .i64 t104, .slice (some ad109) t105.length co57] 24 (0, 0))) := ⟨by (with_reducible repeat (first | refine blk_drewN ?_ _ | refine blk_drew ?_ | refine blk_alloc ?_ _)); refine blk_far ?_ (by have h_ := Kd.N_away HO112.out (fun _ hk => hk.2.1); intro e_; exact h_ qqI) _; (with_reducible repeat (first | refine blk_drewN ?_ _ | refine blk_drew ?_ | refine blk_alloc ?_ _)); exact BK108.out⟩
  have n6_ : Aside0 ((w70.setCell ⟨go16, ((ji8) : Int).toNat, none⟩ (.slice A109_0 y114.length c109_0)).heap[gb113]? = some (.cells #[.int .i64 t103, .int .i64 t104, .slice (some ⟨go16, 0, none⟩) y110.length co65] 24 (0, 0))) := ⟨by (with_reducible repeat (first | refine blk_drewN ?_ _ | refine blk_drew ?_ | refine blk_alloc ?_ _)); refine blk_far ?_ (by have h_ := Kd.N_away HO112.out (fun _ hk => hk.2.2); intro e_; exact h_ qqI) _; (with_reducible repeat (first | refine blk_drewN ?_ _ | refine blk_drew ?_ | refine blk_alloc ?_ _)); exact BK113.out⟩
  have n7_ : Aside0 (Below w.heap.size w (w70.setCell ⟨go16, ((ji8) : Int).toNat, none⟩ (.slice A109_0 y114.length c109_0))) := ⟨by repeat (first | (with_reducible first | exact HB.out | apply below_alloc | apply pw_below_drewN | apply below_drew1 | refine below_set ?_ GB16.out | refine below_set ?_ GE101.out | refine below_set ?_ GE108.out | refine below_set ?_ GE113.out) | exact HB.out)⟩
  (try clear HO107)
  (try clear HL109_0)
  (try clear HO112)
  (try clear HO118)
  (try clear BK101)
  (try clear BK108)
  (try clear BK113)
  (try clear HB)
  generalize (w70.setCell ⟨go16, ((ji8) : Int).toNat, none⟩ (.slice A109_0 y114.length c109_0)) = w73 at n0_ n1_ n2_ n3_ n4_ n5_ n6_ n7_ ⊢
  have HO107 := n0_
  have HL109_0 := n1_
  have HO112 := n2_
  have HO118 := n3_
  have BK101 := n4_
  have BK108 := n5_
  have BK113 := n6_
  have HB := n7_
  clear n0_ n1_ n2_ n3_ n4_ n5_ n6_ n7_
  have hnb74 := NB113_101.out
  have hnc74 := NB101_113.out
  have hnb75 := NB113_108.out
  have hnc75 := NB108_113.out
  obtain ⟨hcz76_0, hcz76_1, hcz76_2, hfz76_0, hfz76_1, hfz76_2⟩ := blk3 BK113.out
  try go_wp2_with (first | ((with_reducible refine gate_callee (f := 24) rfl ?_); refine goesL_ (some 60) rfl rfl Try.func24 (by kernel_rfl) rfl #[.agg #[.int .i64 t103, .int .i64 t104, .slice (some ⟨go16, 0, none⟩) y119.length co65]] rfl (by (try simp only [List.map_toArray, List.map_cons, List.map_nil]); first | done | (rw [show y119.length = y110.length from (Kd.N_reads' HO112.out).1.symm] <;> rfl) | rfl | (simp only [List.length_drop, List.length_take]; rfl)) ?_; (with_reducible refine (smf_Check.calls k t103 t104 _ _ y119 t120 t121 _ ?side1 ?side2 A17.out).mono ?_); (case side1 => repeat (first | exact (Kd.N_reads' HO112.out).2.2 | (with_reducible refine Kd.C_alloc ?_ _) | (with_reducible refine Kd.C_drewN ?_ _) | (with_reducible refine Kd.C_drew ?_))); (case side2 => rw [show y119.length = y110.length from (Kd.N_reads' HO112.out).1.symm]; exact (Kd.N_reads' HO112.out).2.1); rintro e w77 ⟨rfl, hb⟩; refine ⟨_, rfl, ?_⟩; replace HO107 := Aside0.mk (Kd.N_below (qN HO107.out) hb); replace HL109_0 := Aside0.mk (Kd.V_below (qV HL109_0.out) hb); replace HO112 := Aside0.mk (Kd.N_below (qN HO112.out) hb); replace HO118 := Aside0.mk (Kd.V_below (qV HO118.out) hb); replace BK101 := Aside0.mk (blk_below (bq BK101.out) hb); replace BK108 := Aside0.mk (blk_below (bq BK108.out) hb); replace BK113 := Aside0.mk (blk_below (bq BK113.out) hb); replace HB := Aside0.mk (below_step (qS3 GE101 GE108 GE113 HB.out) hb); (try clear hb); (try clear hb2); (try clear hk); (try clear hi)))
  replace HO107 := Aside0.mk (Kd.N_drew HO107.out)
  replace HL109_0 := Aside0.mk (Kd.V_drew HL109_0.out)
  replace HO112 := Aside0.mk (Kd.N_drew HO112.out)
  replace HO118 := Aside0.mk (Kd.V_drew HO118.out)
  replace BK101 := Aside0.mk (blk_drew BK101.out)
  replace BK108 := Aside0.mk (blk_drew BK108.out)
  replace BK113 := Aside0.mk (blk_drew BK113.out)
  replace HB := Aside0.mk (below_drew1 HB.out)
  have q79 : ((ji19) : Int) ≤ (((rd_L3 t105 (ji8)).length : Int) : Int) := of_decide_eq_true qq5
  obtain ⟨i079, hi079, _, hsz79, _⟩ := info_parts info28
  have hroom79 : (rd_L3 t105 (ji8)).length ≤ c109_0 := HC109_0.out
  have hC79 : Kd.F k28 _ _ A109_0 (rd_L3 t105 (ji8)).length (rd_L3 t105 (ji8)) := (Kd.V_at (base := w.heap.size) HL109_0.out).2.2
  have hcut79 := cut_to (P := Try.prog) 30 28 .i64 Try.underlying30 hi079 A109_0 (rd_L3 t105 (ji8)).length c109_0 (ji19) (of_decide_eq_true qq5) q79 hroom79
  have hr79 := Kd.F_take (m := ((ji19) : Int).toNat) hC79 (by omega)
  have hy79 : y122.length = ((ji19) : Int).toNat := (by rw [Ny122.out, List.length_take]; omega)
  rw [← Ny122.out] at hr79
  rw [← hy79] at hcut79
  have HO126 := Aside0.mk (show Kd.V k28 28 _ w.heap.size _ (.slice A109_0 y122.length c109_0) y122 from Kd.V_mk (by omega) hr79)
  have HC126 := Aside0.mk (show y122.length ≤ c109_0 from by omega)
  clear hr79 hC79 hroom79 hi079 hsz79
  have KY79 := Aside0.mk hy79
  clear hy79
  replace q79 := eq_true q79
  have q80 : ((ji19) : Int) ≤ (((rd_L3 t105 (ji8)).length : Int) : Int) := of_decide_eq_true qq5
  obtain ⟨i080, hi080, _, hsz80, _⟩ := info_parts info28
  have hroom80 : (rd_L3 t105 (ji8)).length ≤ c109_0 := HC109_0.out
  have hC80 : Kd.F k28 _ _ A109_0 (rd_L3 t105 (ji8)).length (rd_L3 t105 (ji8)) := (Kd.V_at (base := w.heap.size) HL109_0.out).2.2
  have q080 : (0 : Int) ≤ ((ji19) : Int) := of_decide_eq_true qq5
  have hcut80 := cut_from (P := Try.prog) 30 28 .i64 Try.underlying30 hi080 6 hsz80 A109_0 (rd_L3 t105 (ji8)).length c109_0 (ji19) q080 q80
  have hr80 := Kd.F_cut (m := ((ji19) : Int).toNat) (c := c109_0) hC80 (by omega) hroom80
  obtain ⟨A80, hA80⟩ : ∃ A1, A1 = (if c109_0 = ((ji19) : Int).toNat then A109_0 else (A109_0 : Option Addr).map (·.add (((ji19) : Int).toNat * 6))) := ⟨_, rfl⟩
  obtain ⟨c80, hc80⟩ : ∃ c1, c1 = c109_0 - ((ji19) : Int).toNat := ⟨_, rfl⟩
  have hy80 : y139.length = (rd_L3 t105 (ji8)).length - ((ji19) : Int).toNat := (by rw [Ny139.out, List.length_drop] <;> omega)
  rw [show (rd_L3 t105 (ji8)).drop ((ji19) : Int).toNat = y139 from Ny139.out.symm] at hr80
  replace hr80 : Kd.F k28 _ _ A80 y139.length y139 := (by rw [hA80]; exact hr80)
  rw [← hy80, ← hA80, ← hc80] at hcut80
  have HO143 := Aside0.mk (show Kd.V k28 28 _ w.heap.size _ (.slice A80 y139.length c80) y139 from Kd.V_mk (by rw [hy80, hc80]; exact Nat.sub_le_sub_right hroom80 _) hr80)
  have HC143 := Aside0.mk (show y139.length ≤ c80 from by rw [hy80, hc80]; exact Nat.sub_le_sub_right hroom80 _)
  clear hr80 hC80 hroom80 hi080 hsz80 hc80
  have KY80 := Aside0.mk hy80
  have KA80 := Aside0.mk hA80
  clear hy80 hA80
  replace q80 := eq_true q80
  refine start_ (n := 16) (S := fun w' => w'.cell? ⟨gb113, 0, none⟩ = some (.int .i64 t103) ∧ w'.cell? ⟨gb113, 1, none⟩ = some (.int .i64 t104) ∧ w'.cell? ⟨gb113, 2, none⟩ = some (.slice (some ⟨go16, 0, none⟩) y110.length co65)) (ds := [15]) #[false, false, false, false, false, false, false, false, false, false, false, false, false, false, false, false] (by kernel_rfl) rfl rfl ⟨(blk_cell BK113.out 0).trans rfl, (blk_cell BK113.out 1).trans rfl, (blk_cell BK113.out 2).trans rfl⟩ (fun hHeld => ?_); refine with_tabW partitalaw16_SmfEnds.tab11 partitalaw16_SmfEnds.bits11 (fun HT_ HW_ => ?_)
  generalize w77.drew = w78 at HO107 HL109_0 HO112 HO118 BK101 BK108 BK113 HB HO126 HO143 hHeld ⊢
  refine pure_ (i := 0) (N := some 68) (v := ?_) (a' := ?_) #[true, false, false, false, false, false, false, false, false, false, false, false, false, false, false, false] rfl rfl (any_of HT_.out (by kernel_rfl)) (fun _ _ _ h => h) (Or.inl ⟨by rfl, ?_⟩) ?_ ?_
  rotate_left
  · intro w'
    go_simp
    with_reducible rfl
  rotate_left
  · simp only [Act.put, List.setIfInBounds_toArray, List.set_cons_zero, List.set_cons_succ, i64_w, i32_w]
    rfl
  refine pure_ (i := 2) (N := some 70) (v := ?_) (a' := ?_) #[true, false, true, false, false, false, false, false, false, false, false, false, false, false, false, false] rfl rfl (any_of HT_.out (by kernel_rfl)) (fun _ _ _ h => h) (Or.inl ⟨by rfl, ?_⟩) ?_ ?_
  rotate_left
  · intro w'
    go_simp
    with_reducible rfl
  rotate_left
  · simp only [Act.put, List.setIfInBounds_toArray, List.set_cons_zero, List.set_cons_succ, i64_w, i32_w]
    rfl
  refine pure_ (i := 3) (N := some 71) (v := ?_) (a' := ?_) #[true, false, true, true, false, false, false, false, false, false, false, false, false, false, false, false] rfl rfl (any_of HT_.out (by kernel_rfl)) (fun _ _ _ h => h) (Or.inl ⟨by rfl, ?_⟩) ?_ ?_
  rotate_left
  · intro w'
    go_simp
    with_reducible rfl
  rotate_left
  · simp only [Act.put, List.setIfInBounds_toArray, List.set_cons_zero, List.set_cons_succ, i64_w, i32_w]
    rfl
  refine pure_ (i := 4) (N := some 72) (v := ?_) (a' := ?_) #[true, false, true, true, true, false, false, false, false, false, false, false, false, false, false, false] rfl rfl (any_of HT_.out (by kernel_rfl)) (fun _ _ _ h => h) (Or.inl ⟨by rfl, ?_⟩) ?_ ?_
  rotate_left
  · intro w'
    go_simp
    with_reducible rfl
  rotate_left
  · simp only [Act.put, List.setIfInBounds_toArray, List.set_cons_zero, List.set_cons_succ, i64_w, i32_w]
    rfl
  refine pure_ (i := 5) (N := some 73) (v := ?_) (a' := ?_) #[true, false, true, true, true, true, false, false, false, false, false, false, false, false, false, false] rfl rfl (any_of HT_.out (by kernel_rfl)) (fun _ _ _ h => h) (Or.inl ⟨by rfl, ?_⟩) ?_ ?_
  rotate_left
  · intro w'
    go_simp
    with_reducible rfl
  rotate_left
  · simp only [Act.put, List.setIfInBounds_toArray, List.set_cons_zero, List.set_cons_succ, i64_w, i32_w]
    rfl
  refine pure_ (i := 10) (N := some 78) (v := ?_) (a' := ?_) #[true, false, true, true, true, true, false, false, false, false, true, false, false, false, false, false] rfl rfl (any_of HT_.out (by kernel_rfl)) (fun _ _ _ h => h) (Or.inl ⟨by rfl, ?_⟩) ?_ ?_
  rotate_left
  · intro w'
    go_simp
    with_reducible rfl
  rotate_left
  · simp only [Act.put, List.setIfInBounds_toArray, List.set_cons_zero, List.set_cons_succ, i64_w, i32_w]
    rfl
  refine pure_ (i := 11) (N := some 79) (v := ?_) (a' := ?_) #[true, false, true, true, true, true, false, false, false, false, true, true, false, false, false, false] rfl rfl (any_of HT_.out (by kernel_rfl)) (fun _ _ _ h => h) (Or.inl ⟨by rfl, ?_⟩) ?_ ?_
  rotate_left
  · intro w'
    go_simp
    with_reducible rfl
  rotate_left
  · simp only [Act.put, List.setIfInBounds_toArray, List.set_cons_zero, List.set_cons_succ, i64_w, i32_w]
    rfl
  refine pure_ (i := 12) (N := some 80) (v := ?_) (a' := ?_) #[true, false, true, true, true, true, false, false, false, false, true, true, true, false, false, false] rfl rfl (any_of HT_.out (by kernel_rfl)) (fun _ _ _ h => h) (Or.inl ⟨by rfl, ?_⟩) ?_ ?_
  rotate_left
  · intro w'
    go_simp
    with_reducible rfl
  rotate_left
  · simp only [Act.put, List.setIfInBounds_toArray, List.set_cons_zero, List.set_cons_succ, i64_w, i32_w]
    rfl
  refine take_ (i := 1) (N := some 69) (v := ?_) (a' := ?_) #[true, true, true, true, true, true, false, false, false, false, true, true, true, false, false, false] rfl rfl (take_ofW HT_.out HW_.out (by kernel_rfl)) (fun _ _ _ h => h) (Or.inl ⟨by rfl, ?_⟩) hHeld ?_ ?_
  rotate_left
  · rintro w' ⟨s0, s1, s2⟩
    go_simp
    with_reducible rfl
  rotate_left
  · simp only [Act.put, List.setIfInBounds_toArray, List.set_cons_zero, List.set_cons_succ, i64_w, i32_w]
    rfl
  refine one_ (i := 6) (N := some 74) #[true, true, true, true, true, true, true, false, false, false, true, true, true, false, false, false] rfl rfl (one_of HT_.out (by kernel_rfl)) (by decide) (fun K hK => ?_)
  refine Kd.R_append_rows_step k28 (w0 := w) w.heap.size rfl (.const (.slice none 0 0)) (.tmp 73) 30 28 (.agg #[(.int .i64 0), (.int .i64 0), (.int .i64 0), (.int .i64 0), (.int .i64 0), (.string ⟨#[]⟩)]) 56 rfl Try.underlying30 info28 rfl (by decide) (by omega) (.slice none 0 0) ([] : List (S28)) y122 _ _ _ (fun _ => True) (fun _ => False) rfl rfl ?aO ?aR (fun _ _ h => h) (fun _ h => h.elim) ?aF ?aB ?aS ?aL ?_
  (case aR => repeat (first | exact (Kd.V_reads' HO126.out).2.2 | (with_reducible refine Kd.C_alloc ?_ _) | (with_reducible refine Kd.C_drewN ?_ _) | (with_reducible refine Kd.C_drew ?_)))
  (case aB => exact (qS3 GE101 GE108 GE113 HB.out))
  (case aF => exact (fun _ _ => trivial))
  (case aO => exact ((Kd.R_nil _ _ _ _ (fun _ => True))))
  (case aS => exact qq10)
  (case aL => have := LMc22.out; omega)
  intro v128 w81 ho hb hg hat
  rw [← Ny127.out] at ho
  replace BK101 := Aside0.mk (blk_grown (bq BK101.out) hg qqG)
  replace HO107 := Aside0.mk (Kd.N_afterv (Kd.N_apart_nil (qN HO107.out)) hg hat)
  replace BK108 := Aside0.mk (blk_grown (bq BK108.out) hg qqG)
  replace HL109_0 := Aside0.mk (Kd.V_afterv (Kd.V_apart_nil (qV HL109_0.out)) hg hat)
  replace HO112 := Aside0.mk (Kd.N_afterv (Kd.N_apart_nil (qN HO112.out)) hg hat)
  replace BK113 := Aside0.mk (blk_grown (bq BK113.out) hg qqG)
  replace HO118 := Aside0.mk (Kd.V_afterv (Kd.V_apart_nil (qV HO118.out)) hg hat)
  replace HO126 := Aside0.mk (Kd.V_afterv (Kd.V_apart_nil (qV HO126.out)) hg hat)
  replace HO143 := Aside0.mk (Kd.V_afterv (Kd.V_apart_nil (qV HO143.out)) hg hat)
  replace HB := Aside0.mk (hb)
  have HO129 := Aside0.mk (ho)
  clear ho hb hg hat
  refine hK.out _ _ ⟨(blk_cell BK113.out 0).trans rfl, (blk_cell BK113.out 1).trans rfl, (blk_cell BK113.out 2).trans rfl⟩ (fun hHeld => ?_)
  clear hK K
  refine norm_ (a' := ?_) ?_ ?_
  rotate_left
  · show Act.put _ (some 74) _ = _
    simp only [Act.put, List.setIfInBounds_toArray, List.set_cons_zero, List.set_cons_succ, i64_w, i32_w]
    rfl
  refine one_ (i := 7) (N := some 75) #[true, true, true, true, true, true, true, true, false, false, true, true, true, false, false, false] rfl rfl (one_of HT_.out (by kernel_rfl)) (by decide) (fun K hK => ?_)
  refine goes_ Try.func13 (by kernel_rfl) rfl #[.int .i64 0] (by rfl) rfl rfl qq0 ?_
  with_reducible refine (partitalaw16_End.calls 0 t130 t131 t132 t133 t134 t135 _ A23.out).mono ?_
  rintro e w82 ⟨rfl, hb⟩
  refine ⟨_, rfl, ?_⟩
  replace HO107 := Aside0.mk (Kd.N_below (qN HO107.out) hb)
  replace HL109_0 := Aside0.mk (Kd.V_below (qV HL109_0.out) hb)
  replace HO112 := Aside0.mk (Kd.N_below (qN HO112.out) hb)
  replace HO118 := Aside0.mk (Kd.V_below (qV HO118.out) hb)
  replace HO126 := Aside0.mk (Kd.V_below (qV HO126.out) hb)
  replace HO143 := Aside0.mk (Kd.V_below (qV HO143.out) hb)
  replace HO129 := Aside0.mk (Kd.R_below (qR HO129.out) hb)
  replace BK101 := Aside0.mk (blk_below (bq BK101.out) hb)
  replace BK108 := Aside0.mk (blk_below (bq BK108.out) hb)
  replace BK113 := Aside0.mk (blk_below (bq BK113.out) hb)
  replace HB := Aside0.mk (below_step (qS3 GE101 GE108 GE113 HB.out) hb)
  (try clear hb)
  (try clear hb2)
  (try clear hk)
  (try clear hi)
  refine hK.out _ _ ⟨(blk_cell BK113.out 0).trans rfl, (blk_cell BK113.out 1).trans rfl, (blk_cell BK113.out 2).trans rfl⟩ (fun hHeld => ?_)
  clear hK K
  refine norm_ (a' := ?_) ?_ ?_
  rotate_left
  · show Act.put _ (some 75) _ = _
    simp only [Act.put, List.setIfInBounds_toArray, List.set_cons_zero, List.set_cons_succ, i64_w, i32_w]
    rfl
  refine one_ (i := 8) (N := some 76) #[true, true, true, true, true, true, true, true, true, false, true, true, true, false, false, false] rfl rfl (one_of HT_.out (by kernel_rfl)) (by decide) (fun K hK => ?_)
  refine value_ (w1 := ?_) (v := ?_) (by rfl) rfl ?_ ?_
  rotate_left 2
  · go_simp
    constructor
    · rfl
    rfl
  refine hK.out _ _ ⟨(blk_cell (blk_alloc BK113.out _) 0).trans rfl, (blk_cell (blk_alloc BK113.out _) 1).trans rfl, (blk_cell (blk_alloc BK113.out _) 2).trans rfl⟩ (fun hHeld => ?_)
  clear hK K
  refine norm_ (a' := ?_) ?_ ?_
  rotate_left
  · show Act.put _ (some 76) _ = _
    simp only [Act.put, List.setIfInBounds_toArray, List.set_cons_zero, List.set_cons_succ, i64_w, i32_w]
    rfl
  refine one_ (i := 9) (N := some 77) #[true, true, true, true, true, true, true, true, true, true, true, true, true, false, false, false] rfl rfl (one_of HT_.out (by kernel_rfl)) (by decide) (fun K hK => ?_)
  refine Kd.R_append_step k28 (w0 := w) w.heap.size (by rfl) (.tmp 74) (.tmp 76) 30 28 (.agg #[(.int .i64 0), (.int .i64 0), (.int .i64 0), (.int .i64 0), (.int .i64 0), (.string ⟨#[]⟩)]) 56 rfl Try.underlying30 info28 rfl (by decide) (by omega) v128 y127 (⟨t130, t131, t132, t133, t134, t135⟩ : S28) [.int .i64 t130, .int .i64 t131, .int .i64 t132, .int .i64 t133, .int .i64 t134, .string t135] (fun _ => True) (fun _ => False) rfl rfl ?aP (fun _ hk => hk.elim) ?aF ?aO ?aB ?aS ?aL ?_
  (case aP => exact k28_mkM _ _ _ (⟨t130, t131, t132, t133, t134, t135⟩ : S28))
  (case aB => exact (qS3 GE101 GE108 GE113 HB.out))
  (case aF => exact (fun _ _ => trivial))
  (case aO => exact (qR HO129.out))
  (case aS => exact qq10)
  (case aL => have := LMc24.out; omega)
  intro v137 w83 ho hb hg hat
  rw [← Ny136.out] at ho
  replace BK101 := Aside0.mk (blk_grown (bq BK101.out) hg (Kd.R_ne HO129.out BK101.out (by decide)))
  replace HO107 := Aside0.mk (Kd.N_afterv (ok := (fun k_ => some k_ ≠ (.slice (some ⟨go16, 0, none⟩) y110.length co65 : Value).ownBlock ∧ k_ ≠ gb101 ∧ k_ ≠ gb108 ∧ k_ ≠ gb113)) (qN HO107.out) hg hat)
  replace BK108 := Aside0.mk (blk_grown (bq BK108.out) hg (Kd.R_ne HO129.out BK108.out (by decide)))
  replace HL109_0 := Aside0.mk (Kd.V_afterv (ok := (fun k_ => some k_ ≠ (.slice (some ad109) t105.length co57 : Value).ownBlock ∧ some k_ ≠ (.slice (some ⟨go16, 0, none⟩) y110.length co65 : Value).ownBlock ∧ k_ ≠ gb101 ∧ k_ ≠ gb108 ∧ k_ ≠ gb113)) (qV HL109_0.out) hg hat)
  replace HO112 := Aside0.mk (Kd.N_afterv (ok := (fun k_ => k_ ≠ gb101 ∧ k_ ≠ gb108 ∧ k_ ≠ gb113)) (qN HO112.out) hg hat)
  replace BK113 := Aside0.mk (blk_grown (bq BK113.out) hg (Kd.R_ne HO129.out BK113.out (by decide)))
  replace HO118 := Aside0.mk (Kd.V_afterv (ok := (fun k_ => some k_ ≠ (.slice (some ad109) t105.length co57 : Value).ownBlock ∧ some k_ ≠ (.slice (some ⟨go16, 0, none⟩) y110.length co65 : Value).ownBlock ∧ k_ ≠ gb101 ∧ k_ ≠ gb108 ∧ k_ ≠ gb113)) (qV HO118.out) hg hat)
  replace HO126 := Aside0.mk (Kd.V_afterv (ok := (fun k_ => some k_ ≠ (.slice (some ad109) t105.length co57 : Value).ownBlock ∧ some k_ ≠ (.slice (some ⟨go16, 0, none⟩) y110.length co65 : Value).ownBlock ∧ k_ ≠ gb101 ∧ k_ ≠ gb108 ∧ k_ ≠ gb113)) (qV HO126.out) hg hat)
  replace HO143 := Aside0.mk (Kd.V_afterv (ok := (fun k_ => some k_ ≠ (.slice (some ad109) t105.length co57 : Value).ownBlock ∧ some k_ ≠ (.slice (some ⟨go16, 0, none⟩) y110.length co65 : Value).ownBlock ∧ k_ ≠ gb101 ∧ k_ ≠ gb108 ∧ k_ ≠ gb113)) (qV HO143.out) hg hat)
  replace HB := Aside0.mk (hb)
  have HO138 := Aside0.mk (ho)
  clear HO129
  clear ho hb hg hat
  refine hK.out _ _ ⟨(blk_cell BK113.out 0).trans rfl, (blk_cell BK113.out 1).trans rfl, (blk_cell BK113.out 2).trans rfl⟩ (fun hHeld => ?_)
  clear hK K
  refine norm_ (a' := ?_) ?_ ?_
  rotate_left
  · show Act.put _ (some 77) _ = _
    simp only [Act.put, List.setIfInBounds_toArray, List.set_cons_zero, List.set_cons_succ, i64_w, i32_w]
    rfl
  refine one_ (i := 13) (N := some 81) #[true, true, true, true, true, true, true, true, true, true, true, true, true, true, false, false] rfl rfl (one_of HT_.out (by kernel_rfl)) (by decide) (fun K hK => ?_)
  refine Kd.R_append_rows_step k28 (w0 := w) w.heap.size (by rfl) (.tmp 77) (.tmp 80) 30 28 (.agg #[(.int .i64 0), (.int .i64 0), (.int .i64 0), (.int .i64 0), (.int .i64 0), (.string ⟨#[]⟩)]) 56 rfl Try.underlying30 info28 rfl (by decide) (by omega) v137 y136 y139 _ _ _ (fun _ => True) (fun _ => False) rfl rfl ?aO ?aR (fun _ _ h => h) (fun _ h => h.elim) ?aF ?aB ?aS ?aL ?_
  (case aR => repeat (first | exact (Kd.V_reads' HO143.out).2.2 | (with_reducible refine Kd.C_alloc ?_ _) | (with_reducible refine Kd.C_drewN ?_ _) | (with_reducible refine Kd.C_drew ?_)))
  (case aB => exact (qS3 GE101 GE108 GE113 HB.out))
  (case aF => exact (fun _ _ => trivial))
  (case aO => exact (qR HO138.out))
  (case aS => exact qq10)
  (case aL => have := LMc27.out; omega)
  intro v145 w84 ho hb hg hat
  rw [← Ny144.out] at ho
  replace BK101 := Aside0.mk (blk_grown (bq BK101.out) hg (Kd.R_ne HO138.out BK101.out (by decide)))
  replace HO107 := Aside0.mk (Kd.N_afterv (ok := (fun k_ => some k_ ≠ (.slice (some ⟨go16, 0, none⟩) y110.length co65 : Value).ownBlock ∧ k_ ≠ gb101 ∧ k_ ≠ gb108 ∧ k_ ≠ gb113)) (qN HO107.out) hg hat)
  replace BK108 := Aside0.mk (blk_grown (bq BK108.out) hg (Kd.R_ne HO138.out BK108.out (by decide)))
  replace HL109_0 := Aside0.mk (Kd.V_afterv (ok := (fun k_ => some k_ ≠ (.slice (some ad109) t105.length co57 : Value).ownBlock ∧ some k_ ≠ (.slice (some ⟨go16, 0, none⟩) y110.length co65 : Value).ownBlock ∧ k_ ≠ gb101 ∧ k_ ≠ gb108 ∧ k_ ≠ gb113)) (qV HL109_0.out) hg hat)
  replace HO112 := Aside0.mk (Kd.N_afterv (ok := (fun k_ => k_ ≠ gb101 ∧ k_ ≠ gb108 ∧ k_ ≠ gb113)) (qN HO112.out) hg hat)
  replace BK113 := Aside0.mk (blk_grown (bq BK113.out) hg (Kd.R_ne HO138.out BK113.out (by decide)))
  replace HO118 := Aside0.mk (Kd.V_afterv (ok := (fun k_ => some k_ ≠ (.slice (some ad109) t105.length co57 : Value).ownBlock ∧ some k_ ≠ (.slice (some ⟨go16, 0, none⟩) y110.length co65 : Value).ownBlock ∧ k_ ≠ gb101 ∧ k_ ≠ gb108 ∧ k_ ≠ gb113)) (qV HO118.out) hg hat)
  replace HO126 := Aside0.mk (Kd.V_afterv (ok := (fun k_ => some k_ ≠ (.slice (some ad109) t105.length co57 : Value).ownBlock ∧ some k_ ≠ (.slice (some ⟨go16, 0, none⟩) y110.length co65 : Value).ownBlock ∧ k_ ≠ gb101 ∧ k_ ≠ gb108 ∧ k_ ≠ gb113)) (qV HO126.out) hg hat)
  replace HO143 := Aside0.mk (Kd.V_afterv (ok := (fun k_ => some k_ ≠ (.slice (some ad109) t105.length co57 : Value).ownBlock ∧ some k_ ≠ (.slice (some ⟨go16, 0, none⟩) y110.length co65 : Value).ownBlock ∧ k_ ≠ gb101 ∧ k_ ≠ gb108 ∧ k_ ≠ gb113)) (qV HO143.out) hg hat)
  replace HB := Aside0.mk (hb)
  have HO146 := Aside0.mk (ho)
  clear HO138
  clear ho hb hg hat
  have p28 : 0 ≤ ((ji8) : Int) := of_decide_eq_true qq5
  have q28 : ((ji8) : Int) < ((y110.length : Int) : Int) := of_decide_eq_true qq5
  obtain ⟨ce28, hcl28, hM28, hcc28, hfr28⟩ := Kd.N_elem HO112.out [] ((ji8) : Int) p28 q28
  obtain ⟨ua28_0, uc28_0, rfl, ul28_0, ge28_0⟩ := Kd.FK_slice_open hM28
  have hx28_0 := hcc28 0 _ rfl
  have hf28_0 := hfr28 0
  (try simp only [show ((Kd.slice 28 k28)).sz = 1 from rfl, Nat.mul_one, Nat.add_zero] at hx28_0)
  (try simp only [show ((Kd.slice 28 k28)).sz = 1 from rfl, Nat.mul_one, Nat.add_zero] at hf28_0)
  clear hcl28 hcc28 hfr28 hM28
  replace p28 := eq_true p28
  replace q28 := eq_true q28
  have HX85 := Aside0.mk (show Kd.N (Kd.slice 28 k28) 30 _ w.heap.size (fun k_ => some k_ ≠ (v145 : Value).ownBlock ∧ k_ ≠ gb101 ∧ k_ ≠ gb108 ∧ k_ ≠ gb113) (.slice (some ⟨go16, 0, none⟩) y110.length co65) y119 from (Kd.N_mono (HO112.out) (fun k_ hk => ⟨hk.2, ⟨hk.1.1, ⟨hk.1.2.1, hk.1.2.2⟩⟩⟩)))
  replace HX85 := Aside0.mk (show Kd.N (Kd.slice 28 k28) 30 _ w.heap.size (fun k_ => k_ ≠ gb101 ∧ k_ ≠ gb108 ∧ k_ ≠ gb113) (.slice (some ⟨go16, 0, none⟩) y110.length co65) y119 from Kd.N_mono HX85.out (fun k_ hk => ⟨hk.2.1, ⟨hk.2.2.1, hk.2.2.2⟩⟩))
  obtain ⟨ce85, hcl85, hM85, hcc85, hfr85⟩ := Kd.N_elem HX85.out [] ((ji8) : Int) (of_decide_eq_true qq5) qqu
  obtain ⟨ua85_0, uc85_0, rfl, ul85_0, ge85_0⟩ := Kd.FK_slice_open hM85
  obtain ⟨Ao1_, co1_, eo1_⟩ := Kd.R_slice HO146.out
  have hz1_ := (Kd.R_types (Kd.R_types (Kd.R_types (Kd.R_apart' (HO146.out) (Kd.N_typed HO112.out) (by decide)) BK101.out (by decide)) BK108.out (by decide)) BK113.out (by decide))
  rw [eo1_] at hz1_
  have HP85 := (Kd.N_seg HX85.out ((ji8) : Int) (of_decide_eq_true qq5) qqu (seg := [v145]) (j := 0) hcl85 hcc85 (show 1 ≤ 1 from by decide) (x' := y144) (by rw [eo1_]; exact (Kd.FK_slice_mk (Kd.R_reads' (Kd.R_mono (ok' := (fun k_ => ((fun k_ => k_ ≠ gb101 ∧ k_ ≠ gb108 ∧ k_ ≠ gb113)) k_ ∧ k_ ≠ go16)) hz1_ (fun k_ hk => ⟨⟨hk.1.1.2, ⟨hk.1.2, hk.2⟩⟩, fun e_ => (hk.1.1.1.2) qqI⟩))).2.1 (Kd.R_F (Kd.R_mono (ok' := (fun k_ => ((fun k_ => k_ ≠ gb101 ∧ k_ ≠ gb108 ∧ k_ ≠ gb113)) k_ ∧ k_ ≠ go16)) hz1_ (fun k_ hk => ⟨⟨hk.1.1.2, ⟨hk.1.2, hk.2⟩⟩, fun e_ => (hk.1.1.1.2) qqI⟩))))) (fun _ hk => hk)).1
  (try simp only [show ((Kd.slice 28 k28)).sz = 1 from rfl, Nat.mul_one, Nat.add_zero] at HP85)
  rw [← Ny147.out] at HP85
  have HQ85 := Aside0.mk HP85
  clear hcl85 hcc85 hfr85 hM85 HP85
  refine hK.out _ _ ⟨(blk_cell BK113.out 0).trans rfl, (blk_cell BK113.out 1).trans rfl, (blk_cell BK113.out 2).trans rfl⟩ (fun hHeld => ?_)
  clear hK K
  refine norm_ (a' := ?_) ?_ ?_
  rotate_left
  · show Act.put _ (some 81) _ = _
    simp only [Act.put, List.setIfInBounds_toArray, List.set_cons_zero, List.set_cons_succ, i64_w, i32_w]
    rfl
  refine pure_ (i := 14) (N := some 82) (v := ?_) (a' := ?_) #[true, true, true, true, true, true, true, true, true, true, true, true, true, true, true, false] rfl rfl (any_of HT_.out (by kernel_rfl)) (fun _ _ _ h => h) (Or.inl ⟨by rfl, ?_⟩) ?_ ?_
  rotate_left
  · intro w'
    go_simp
    with_reducible rfl
  rotate_left
  · simp only [Act.put, List.setIfInBounds_toArray, List.set_cons_zero, List.set_cons_succ, i64_w, i32_w]
    rfl
  refine last_ (i := 15) (N := none) #[true, true, true, true, true, true, true, true, true, true, true, true, true, true, true, true] rfl rfl (one_of HT_.out (by kernel_rfl)) (by decide) (fun K hK => ?_)
  refine skip_ (w1 := ?_) (by rfl) rfl ?_ ?_
  rotate_left
  · go_simp
    rfl
  refine hK.out _ _ ?_
  clear hK K
  refine done_ (done_of HT_.out (by kernel_rfl)) ?_
  have n0_ : Aside0 (Kd.N (Kd.slice 28 k28) 30 (w84.setCell ⟨go16, ((ji8) : Int).toNat, none⟩ (v145)) w.heap.size (fun k_ => some k_ ≠ (.slice (some ⟨go16, 0, none⟩) y110.length co65 : Value).ownBlock ∧ k_ ≠ gb101 ∧ k_ ≠ gb108 ∧ k_ ≠ gb113) (.slice (some ad109) t105.length co57) t105) := ⟨by (with_reducible repeat (first | apply Kd.N_alloc | apply Kd.N_drewN | apply Kd.N_drew)); exact Kd.N_mono (Kd.N_far (p := ⟨go16, ((ji8) : Int).toNat, none⟩) (Kd.N_mono HO107.out (fun k_ hk => (⟨hk, fun e_ => hk.1.1 qqI⟩ : _ ∧ k_ ≠ go16))) (fun _ hk => hk.2) (v145)) (fun _ hk => ⟨hk.1.1.1, ⟨hk.1.1.2.1, ⟨hk.1.1.2.2.1, hk.1.1.2.2.2⟩⟩⟩)⟩
  have n1_ : Aside0 (Kd.V k28 28 (w84.setCell ⟨go16, ((ji8) : Int).toNat, none⟩ (v145)) w.heap.size (fun k_ => some k_ ≠ (.slice (some ad109) t105.length co57 : Value).ownBlock ∧ some k_ ≠ (.slice (some ⟨go16, 0, none⟩) y110.length co65 : Value).ownBlock ∧ k_ ≠ gb101 ∧ k_ ≠ gb108 ∧ k_ ≠ gb113) (.slice A109_0 (rd_L3 t105 (ji8)).length c109_0) (rd_L3 t105 (ji8))) := ⟨by (with_reducible repeat (first | apply Kd.V_alloc | apply Kd.V_drewN | apply Kd.V_drew)); exact Kd.V_mono (Kd.V_far (p := ⟨go16, ((ji8) : Int).toNat, none⟩) (Kd.V_mono HL109_0.out (fun k_ hk => (⟨hk, fun e_ => hk.1.2.1 qqI⟩ : _ ∧ k_ ≠ go16))) (fun _ hk => hk.2) (v145)) (fun _ hk => ⟨hk.1.1.1, ⟨hk.1.1.2.1, ⟨hk.1.1.2.2.1, ⟨hk.1.1.2.2.2.1, hk.1.1.2.2.2.2⟩⟩⟩⟩)⟩
  have n2_ : Aside0 (Kd.N (Kd.slice 28 k28) 30 (w84.setCell ⟨go16, ((ji8) : Int).toNat, none⟩ (v145)) w.heap.size (fun k_ => k_ ≠ gb101 ∧ k_ ≠ gb108 ∧ k_ ≠ gb113) (.slice (some ⟨go16, 0, none⟩) y110.length co65) y147) := ⟨qN HQ85.out⟩
  have n3_ : Aside0 (Kd.V k28 28 (w84.setCell ⟨go16, ((ji8) : Int).toNat, none⟩ (v145)) w.heap.size (fun k_ => some k_ ≠ (.slice (some ad109) t105.length co57 : Value).ownBlock ∧ some k_ ≠ (.slice (some ⟨go16, 0, none⟩) y110.length co65 : Value).ownBlock ∧ k_ ≠ gb101 ∧ k_ ≠ gb108 ∧ k_ ≠ gb113) (.slice A109_0 y114.length c109_0) y114) := ⟨by (with_reducible repeat (first | apply Kd.V_alloc | apply Kd.V_drewN | apply Kd.V_drew)); exact Kd.V_mono (Kd.V_far (p := ⟨go16, ((ji8) : Int).toNat, none⟩) (Kd.V_mono HO118.out (fun k_ hk => (⟨hk, fun e_ => hk.1.2.1 qqI⟩ : _ ∧ k_ ≠ go16))) (fun _ hk => hk.2) (v145)) (fun _ hk => ⟨hk.1.1.1, ⟨hk.1.1.2.1, ⟨hk.1.1.2.2.1, ⟨hk.1.1.2.2.2.1, hk.1.1.2.2.2.2⟩⟩⟩⟩)⟩
  have n4_ : Aside0 (Kd.V k28 28 (w84.setCell ⟨go16, ((ji8) : Int).toNat, none⟩ (v145)) w.heap.size (fun k_ => some k_ ≠ (.slice (some ad109) t105.length co57 : Value).ownBlock ∧ some k_ ≠ (.slice (some ⟨go16, 0, none⟩) y110.length co65 : Value).ownBlock ∧ k_ ≠ gb101 ∧ k_ ≠ gb108 ∧ k_ ≠ gb113) (.slice A109_0 y122.length c109_0) y122) := ⟨by (with_reducible repeat (first | apply Kd.V_alloc | apply Kd.V_drewN | apply Kd.V_drew)); exact Kd.V_mono (Kd.V_far (p := ⟨go16, ((ji8) : Int).toNat, none⟩) (Kd.V_mono HO126.out (fun k_ hk => (⟨hk, fun e_ => hk.1.2.1 qqI⟩ : _ ∧ k_ ≠ go16))) (fun _ hk => hk.2) (v145)) (fun _ hk => ⟨hk.1.1.1, ⟨hk.1.1.2.1, ⟨hk.1.1.2.2.1, ⟨hk.1.1.2.2.2.1, hk.1.1.2.2.2.2⟩⟩⟩⟩)⟩
  have n5_ : Aside0 (Kd.V k28 28 (w84.setCell ⟨go16, ((ji8) : Int).toNat, none⟩ (v145)) w.heap.size (fun k_ => some k_ ≠ (.slice (some ad109) t105.length co57 : Value).ownBlock ∧ some k_ ≠ (.slice (some ⟨go16, 0, none⟩) y110.length co65 : Value).ownBlock ∧ k_ ≠ gb101 ∧ k_ ≠ gb108 ∧ k_ ≠ gb113) (.slice A80 y139.length c80) y139) := ⟨by (with_reducible repeat (first | apply Kd.V_alloc | apply Kd.V_drewN | apply Kd.V_drew)); exact Kd.V_mono (Kd.V_far (p := ⟨go16, ((ji8) : Int).toNat, none⟩) (Kd.V_mono HO143.out (fun k_ hk => (⟨hk, fun e_ => hk.1.2.1 qqI⟩ : _ ∧ k_ ≠ go16))) (fun _ hk => hk.2) (v145)) (fun _ hk => ⟨hk.1.1.1, ⟨hk.1.1.2.1, ⟨hk.1.1.2.2.1, ⟨hk.1.1.2.2.2.1, hk.1.1.2.2.2.2⟩⟩⟩⟩)⟩
  have n6_ : Aside0 ((w84.setCell ⟨go16, ((ji8) : Int).toNat, none⟩ (v145)).heap[gb101]? = some (.cells #[.int .i64 a0_0, .int .i64 a0_1, .slice A0_2 l0_2.length c0_2] 24 (0, 0))) := ⟨by (with_reducible repeat (first | refine blk_drewN ?_ _ | refine blk_drew ?_ | refine blk_alloc ?_ _)); refine blk_far ?_ (by have h_ := Kd.N_away HX85.out (fun _ hk => hk.1); intro e_; exact h_ qqI) _; (with_reducible repeat (first | refine blk_drewN ?_ _ | refine blk_drew ?_ | refine blk_alloc ?_ _)); exact BK101.out⟩
  have n7_ : Aside0 ((w84.setCell ⟨go16, ((ji8) : Int).toNat, none⟩ (v145)).heap[gb108]? = some (.cells #[.int .i64 t103, .int .i64 t104, .slice (some ad109) t105.length co57] 24 (0, 0))) := ⟨by (with_reducible repeat (first | refine blk_drewN ?_ _ | refine blk_drew ?_ | refine blk_alloc ?_ _)); refine blk_far ?_ (by have h_ := Kd.N_away HX85.out (fun _ hk => hk.2.1); intro e_; exact h_ qqI) _; (with_reducible repeat (first | refine blk_drewN ?_ _ | refine blk_drew ?_ | refine blk_alloc ?_ _)); exact BK108.out⟩
  have n8_ : Aside0 ((w84.setCell ⟨go16, ((ji8) : Int).toNat, none⟩ (v145)).heap[gb113]? = some (.cells #[.int .i64 t103, .int .i64 t104, .slice (some ⟨go16, 0, none⟩) y110.length co65] 24 (0, 0))) := ⟨by (with_reducible repeat (first | refine blk_drewN ?_ _ | refine blk_drew ?_ | refine blk_alloc ?_ _)); refine blk_far ?_ (by have h_ := Kd.N_away HX85.out (fun _ hk => hk.2.2); intro e_; exact h_ qqI) _; (with_reducible repeat (first | refine blk_drewN ?_ _ | refine blk_drew ?_ | refine blk_alloc ?_ _)); exact BK113.out⟩
  have n9_ : Aside0 (Below w.heap.size w (w84.setCell ⟨go16, ((ji8) : Int).toNat, none⟩ (v145))) := ⟨by repeat (first | (with_reducible first | exact HB.out | apply below_alloc | apply pw_below_drewN | apply below_drew1 | refine below_set ?_ GB16.out | refine below_set ?_ GE101.out | refine below_set ?_ GE108.out | refine below_set ?_ GE113.out) | exact HB.out)⟩
  (try clear HO107)
  (try clear HL109_0)
  (try clear HO112)
  (try clear HO118)
  (try clear HO126)
  (try clear HO143)
  (try clear BK101)
  (try clear BK108)
  (try clear BK113)
  (try clear HB)
  rw [eo1_] at n0_ n1_ n2_ n3_ n4_ n5_ n6_ n7_ n8_ n9_
  generalize (w84.setCell ⟨go16, ((ji8) : Int).toNat, none⟩ (.slice Ao1_ y144.length co1_)) = w86 at n0_ n1_ n2_ n3_ n4_ n5_ n6_ n7_ n8_ n9_ ⊢
  have HO107 := n0_
  have HL109_0 := n1_
  have HO112 := n2_
  have HO118 := n3_
  have HO126 := n4_
  have HO143 := n5_
  have BK101 := n6_
  have BK108 := n7_
  have BK113 := n8_
  have HB := n9_
  clear n0_ n1_ n2_ n3_ n4_ n5_ n6_ n7_ n8_ n9_
  obtain ⟨hcz87_0, hcz87_1, hcz87_2, hfz87_0, hfz87_1, hfz87_2⟩ := blk3 BK113.out
  try go_wp2_with (first | ((with_reducible refine gate_callee (f := 24) rfl ?_); refine goesL_ (some 85) rfl rfl Try.func24 (by kernel_rfl) rfl #[.agg #[.int .i64 t103, .int .i64 t104, .slice (some ⟨go16, 0, none⟩) y147.length co65]] rfl qqK ?_; (with_reducible refine (smf_Check.calls k t103 t104 _ _ y147 t148 t149 _ ?side1 ?side2 A29.out).mono ?_); (case side1 => repeat (first | exact (Kd.N_reads' HO112.out).2.2 | (with_reducible refine Kd.C_alloc ?_ _) | (with_reducible refine Kd.C_drewN ?_ _) | (with_reducible refine Kd.C_drew ?_))); (case side2 => rw [show y147.length = y110.length from (Kd.N_reads' HO112.out).1.symm]; exact (Kd.N_reads' HO112.out).2.1); rintro e w88 ⟨rfl, hb⟩; refine ⟨_, rfl, ?_⟩; replace HO107 := Aside0.mk (Kd.N_below (qN HO107.out) hb); replace HL109_0 := Aside0.mk (Kd.V_below (qV HL109_0.out) hb); replace HO112 := Aside0.mk (Kd.N_below (qN HO112.out) hb); replace HO118 := Aside0.mk (Kd.V_below (qV HO118.out) hb); replace HO126 := Aside0.mk (Kd.V_below (qV HO126.out) hb); replace HO143 := Aside0.mk (Kd.V_below (qV HO143.out) hb); replace BK101 := Aside0.mk (blk_below (bq BK101.out) hb); replace BK108 := Aside0.mk (blk_below (bq BK108.out) hb); replace BK113 := Aside0.mk (blk_below (bq BK113.out) hb); replace HB := Aside0.mk (below_step (qS3 GE101 GE108 GE113 HB.out) hb); (try clear hb); (try clear hb2); (try clear hk); (try clear hi); obtain ⟨hcz89_0, hcz89_1, hcz89_2, hfz89_0, hfz89_1, hfz89_2⟩ := blk3 BK113.out) | ((with_reducible refine gate_callee (f := 15) rfl ?_); refine goesL_ (some 90) rfl rfl Try.func15 (by kernel_rfl) rfl #[.agg #[.int .i64 t103, .int .i64 t104, .slice (some ⟨go16, 0, none⟩) y147.length co65]] rfl qqK ?_; (with_reducible refine (smf_Print.calls k t103 t104 _ _ y147 t150 t151 _ ?side1 ?side2 A30.out).mono ?_); (case side1 => repeat (first | exact (Kd.N_reads' HO112.out).2.2 | (with_reducible refine Kd.C_alloc ?_ _) | (with_reducible refine Kd.C_drewN ?_ _) | (with_reducible refine Kd.C_drew ?_))); (case side2 => rw [show y147.length = y110.length from (Kd.N_reads' HO112.out).1.symm]; exact (Kd.N_reads' HO112.out).2.1); rintro e w90 ⟨rfl, hb⟩; refine ⟨_, rfl, ?_⟩; replace HO107 := Aside0.mk (Kd.N_below (qN HO107.out) hb); replace HL109_0 := Aside0.mk (Kd.V_below (qV HL109_0.out) hb); replace HO112 := Aside0.mk (Kd.N_below (qN HO112.out) hb); replace HO118 := Aside0.mk (Kd.V_below (qV HO118.out) hb); replace HO126 := Aside0.mk (Kd.V_below (qV HO126.out) hb); replace HO143 := Aside0.mk (Kd.V_below (qV HO143.out) hb); replace BK101 := Aside0.mk (blk_below (bq BK101.out) hb); replace BK108 := Aside0.mk (blk_below (bq BK108.out) hb); replace BK113 := Aside0.mk (blk_below (bq BK113.out) hb); replace HB := Aside0.mk (below_step (qS3 GE101 GE108 GE113 HB.out) hb); (try clear hb); (try clear hb2); (try clear hk); (try clear hi); obtain ⟨hcz91_0, hcz91_1, hcz91_2, hfz91_0, hfz91_1, hfz91_2⟩ := blk3 BK113.out; have p152 : 0 ≤ ((ji8) : Int) := of_decide_eq_true qq5; have q152 : (ji8) < (y147.length : Int) := (by have h_ : ((ji8) : Int) < ((y110.length : Int) : Int) := of_decide_eq_true qq5; first | (have e_ := (Kd.N_reads' HO112.out).1; omega) | simpa only [Ny119.out, Ny147.out, List.length_set] using h_); have ql152 : (((ji8) : Int) < ((y110.length : Int) : Int)) = True := eq_true (of_decide_eq_true qq5); obtain ⟨ad152, A152_0, c152_0, e152, hx152_0, hl152_0, hi152_0⟩ := at_L3 (Kd.N_reads' HO112.out).2.2 (ji8) p152 q152; obtain rfl : (⟨go16, 0, none⟩ : Addr) = ad152 := (by injection e152); obtain ⟨ce152, hce152, hMe152, hcc152⟩ := Kd.N_get HO112.out [] (ji8) p152 (by first | exact q152 | exact of_decide_eq_true qq5 | (have e_ := (Kd.N_reads' HO112.out).1; omega)); obtain ⟨ua152_0, uc152_0, rfl, ul152_0, ge152_0⟩ := Kd.FK_slice_open hMe152; have hv152_0 := hcc152 0 _ rfl; rw [Nat.add_zero, show ((Kd.slice 28 k28)).sz = 1 from rfl, Nat.mul_one] at hv152_0; replace hv152_0 := Option.some.inj (hv152_0.symm.trans hx152_0); injection hv152_0 with hva_ hvn_ hvc_; rw [hva_] at ge152_0; rw [hvc_] at ul152_0; have HL152_0 := Aside0.mk (show Kd.V k28 28 _ w.heap.size _ _ (rd_L3 y147 (ji8)) from Kd.V_mk ul152_0 ge152_0); clear hva_ hvn_ hvc_ ge152_0 ul152_0; clear hcc152 hce152; (first | simp only [add_plain] at hx152_0 | simp only [add_at] at hx152_0 | simp only [Addr.add, Nat.zero_add] at hx152_0 | skip); have HR152_0 := Aside0.mk hi152_0; have HC152_0 := Aside0.mk hl152_0; clear hi152_0 hl152_0; replace p152 := eq_true p152; replace q152 := eq_true q152) | ((with_reducible refine gate_callee (f := 22) rfl ?_); refine goesL_ (some 99) rfl rfl Try.func22 (by kernel_rfl) rfl #[.slice A152_0 (rd_L3 y147 (ji8)).length c152_0] rfl (by (try simp only [List.map_toArray, List.map_cons, List.map_nil]); first | done | (simp only [hji8]; rfl) | rfl | (simp only [List.length_drop, List.length_take]; rfl)) ?_; (with_reducible refine (wire_Encode.calls k _ _ (rd_L3 y147 (ji8)) t153 t154 _ ?side1 ?side2 A31.out).mono ?_); (case side1 => repeat (first | exact (by repeat (first | (with_reducible exact HR152_0.out) | (with_reducible refine Kd.C_alloc ?_ _) | (with_reducible refine Kd.C_drewN ?_ _) | (with_reducible refine Kd.C_drew ?_) | exact HR152_0.out)) | (with_reducible refine Kd.C_alloc ?_ _) | (with_reducible refine Kd.C_drewN ?_ _) | (with_reducible refine Kd.C_drew ?_))); (case side2 => exact HC152_0.out); rintro e w92 ⟨rfl, hb⟩; refine ⟨_, rfl, ?_⟩; replace HO107 := Aside0.mk (Kd.N_below (qN HO107.out) hb); replace HL109_0 := Aside0.mk (Kd.V_below (qV HL109_0.out) hb); replace HO112 := Aside0.mk (Kd.N_below (qN HO112.out) hb); replace HO118 := Aside0.mk (Kd.V_below (qV HO118.out) hb); replace HO126 := Aside0.mk (Kd.V_below (qV HO126.out) hb); replace HO143 := Aside0.mk (Kd.V_below (qV HO143.out) hb); replace HL152_0 := Aside0.mk (Kd.V_below (qV HL152_0.out) hb); replace BK101 := Aside0.mk (blk_below (bq BK101.out) hb); replace BK108 := Aside0.mk (blk_below (bq BK108.out) hb); replace BK113 := Aside0.mk (blk_below (bq BK113.out) hb); replace HR152_0 := Aside0.mk (Kd.C_below (by repeat (first | (with_reducible exact HR152_0.out) | (with_reducible refine Kd.C_alloc ?_ _) | (with_reducible refine Kd.C_drewN ?_ _) | (with_reducible refine Kd.C_drew ?_) | exact HR152_0.out)) hb); replace HB := Aside0.mk (below_step (qS3 GE101 GE108 GE113 HB.out) hb); (try clear hb); (try clear hb2); (try clear hk); (try clear hi)) | ((with_reducible refine gate_callee (f := 23) rfl ?_); refine goesL_ (some 102) rfl rfl Try.func23 (by kernel_rfl) rfl #[.int .i64 6] rfl qq0 ?_; (with_reducible refine (partitalaw16_big.calls 6 t155 _ A32.out).mono ?_); rintro e w93 ⟨rfl, hb⟩; refine ⟨_, rfl, ?_⟩; replace HO107 := Aside0.mk (Kd.N_below (qN HO107.out) hb); replace HL109_0 := Aside0.mk (Kd.V_below (qV HL109_0.out) hb); replace HO112 := Aside0.mk (Kd.N_below (qN HO112.out) hb); replace HO118 := Aside0.mk (Kd.V_below (qV HO118.out) hb); replace HO126 := Aside0.mk (Kd.V_below (qV HO126.out) hb); replace HO143 := Aside0.mk (Kd.V_below (qV HO143.out) hb); replace HL152_0 := Aside0.mk (Kd.V_below (qV HL152_0.out) hb); replace BK101 := Aside0.mk (blk_below (bq BK101.out) hb); replace BK108 := Aside0.mk (blk_below (bq BK108.out) hb); replace BK113 := Aside0.mk (blk_below (bq BK113.out) hb); replace HR152_0 := Aside0.mk (Kd.C_below (by repeat (first | (with_reducible exact HR152_0.out) | (with_reducible refine Kd.C_alloc ?_ _) | (with_reducible refine Kd.C_drewN ?_ _) | (with_reducible refine Kd.C_drew ?_) | exact HR152_0.out)) hb); replace HB := Aside0.mk (below_step (qS3 GE101 GE108 GE113 HB.out) hb); (try clear hb); (try clear hb2); (try clear hk); (try clear hi)) | ((with_reducible refine gate_callee (f := 23) rfl ?_); refine goesL_ (some 108) rfl rfl Try.func23 (by kernel_rfl) rfl #[.int .i64 (t153.size : Int)] rfl qq0 ?_; (with_reducible refine (partitalaw16_big.calls (t153.size : Int) t156 _ A36.out).mono ?_); rintro e w94 ⟨rfl, hb⟩; refine ⟨_, rfl, ?_⟩; replace HO107 := Aside0.mk (Kd.N_below (qN HO107.out) hb); replace HL109_0 := Aside0.mk (Kd.V_below (qV HL109_0.out) hb); replace HO112 := Aside0.mk (Kd.N_below (qN HO112.out) hb); replace HO118 := Aside0.mk (Kd.V_below (qV HO118.out) hb); replace HO126 := Aside0.mk (Kd.V_below (qV HO126.out) hb); replace HO143 := Aside0.mk (Kd.V_below (qV HO143.out) hb); replace HL152_0 := Aside0.mk (Kd.V_below (qV HL152_0.out) hb); replace BK101 := Aside0.mk (blk_below (bq BK101.out) hb); replace BK108 := Aside0.mk (blk_below (bq BK108.out) hb); replace BK113 := Aside0.mk (blk_below (bq BK113.out) hb); replace HR152_0 := Aside0.mk (Kd.C_below (by repeat (first | (with_reducible exact HR152_0.out) | (with_reducible refine Kd.C_alloc ?_ _) | (with_reducible refine Kd.C_drewN ?_ _) | (with_reducible refine Kd.C_drew ?_) | exact HR152_0.out)) hb); replace HB := Aside0.mk (below_step (qS3 GE101 GE108 GE113 HB.out) hb); (try clear hb); (try clear hb2); (try clear hk); (try clear hi)) | ((with_reducible refine gate_callee (f := 21) rfl ?_); refine goesL_ (some 114) rfl rfl Try.func21 (by kernel_rfl) rfl #[.string ((((((⟨#[77, 84, 104, 100]⟩ : ByteArray) ++ t155) ++ (⟨#[0, 0, 0, 1, 0, 96]⟩ : ByteArray)) ++ (⟨#[77, 84, 114, 107]⟩ : ByteArray)) ++ t156) ++ t153)] rfl qq0 ?_; (with_reducible refine (smf_Parse.calls k ((((((⟨#[77, 84, 104, 100]⟩ : ByteArray) ++ t155) ++ (⟨#[0, 0, 0, 1, 0, 96]⟩ : ByteArray)) ++ (⟨#[77, 84, 114, 107]⟩ : ByteArray)) ++ t156) ++ t153) t157 t158 t159 t162 t163 _ A39.out).mono ?_); rintro e w95 ⟨v160, rfl, ho0, hb⟩; refine ⟨_, rfl, ?_⟩; replace HL109_0 := Aside0.mk (Kd.V_elder' (qV HL109_0.out) qqg hb); replace HO118 := Aside0.mk (Kd.V_elder' (qV HO118.out) qqg hb); replace HO126 := Aside0.mk (Kd.V_elder' (qV HO126.out) qqg hb); replace HO143 := Aside0.mk (Kd.V_elder' (qV HO143.out) qqg hb); replace HL152_0 := Aside0.mk (Kd.V_elder' (qV HL152_0.out) qqg hb); have HO161 := Aside0.mk (Kd.N_lower (Kd.N_mono (ok' := fun k_ => some k_ ≠ (.slice (some ad109) t105.length co57 : Value).ownBlock ∧ some k_ ≠ (.slice (some ⟨go16, 0, none⟩) y110.length co65 : Value).ownBlock ∧ k_ ≠ gb101 ∧ k_ ≠ gb108 ∧ k_ ≠ gb113) (Kd.S_N (Kd.S_bound ho0)) (fun k_ hk_ => ⟨(Kd.fresh' (Kd.N_lt (qN HO107.out)) k_ hk_.2.1), (Kd.fresh' (Kd.N_lt (qN HO112.out)) k_ hk_.2.1), (Kd.freshB (bq BK101.out) k_ hk_.2.1), (Kd.freshB (bq BK108.out) k_ hk_.2.1), (Kd.freshB (bq BK113.out) k_ hk_.2.1)⟩)) (below_size (qS3 GE101 GE108 GE113 HB.out))); replace HO107 := Aside0.mk (Kd.N_elder' (qN HO107.out) qqg hb); replace HO112 := Aside0.mk (Kd.N_elder' (qN HO112.out) qqg hb); replace BK101 := Aside0.mk (blk_below (bq BK101.out) hb); replace BK108 := Aside0.mk (blk_below (bq BK108.out) hb); replace BK113 := Aside0.mk (blk_below (bq BK113.out) hb); replace HR152_0 := Aside0.mk (Kd.C_below (by repeat (first | (with_reducible exact HR152_0.out) | (with_reducible refine Kd.C_alloc ?_ _) | (with_reducible refine Kd.C_drewN ?_ _) | (with_reducible refine Kd.C_drew ?_) | exact HR152_0.out)) hb); replace HB := Aside0.mk (below_step (qS3 GE101 GE108 GE113 HB.out) hb); (try clear hb); (try clear hb2); (try clear hk); (try clear hi); (try clear ho0)) | ((with_reducible refine gate_dst (N := 22) rfl ?_); refine box_event ?hg (N := 22) ?hd (cs := #[.int .i64 0, .int .i64 0, .slice none 0 0]) (t := 24) ?hr ?_; (case hd => rfl); (case hg => rfl); (case hr => exact qq9); intro gb164 hg w96 hbox hb; replace HO107 := Aside0.mk (Kd.N_below (Kd.N_elderB (qN HO107.out) gb164 (Nat.le_of_eq hg.symm)) hb); replace HL109_0 := Aside0.mk (Kd.V_below (Kd.V_elderB (qV HL109_0.out) gb164 (Nat.le_of_eq hg.symm)) hb); replace HO112 := Aside0.mk (Kd.N_below (Kd.N_elderB (qN HO112.out) gb164 (Nat.le_of_eq hg.symm)) hb); replace HO118 := Aside0.mk (Kd.V_below (Kd.V_elderB (qV HO118.out) gb164 (Nat.le_of_eq hg.symm)) hb); replace HO126 := Aside0.mk (Kd.V_below (Kd.V_elderB (qV HO126.out) gb164 (Nat.le_of_eq hg.symm)) hb); replace HO143 := Aside0.mk (Kd.V_below (Kd.V_elderB (qV HO143.out) gb164 (Nat.le_of_eq hg.symm)) hb); replace HL152_0 := Aside0.mk (Kd.V_below (Kd.V_elderB (qV HL152_0.out) gb164 (Nat.le_of_eq hg.symm)) hb); replace HO161 := Aside0.mk (Kd.N_below (Kd.N_elderB (qN HO161.out) gb164 (Nat.le_of_eq hg.symm)) hb); replace HR152_0 := Aside0.mk (Kd.C_below (by repeat (first | (with_reducible exact HR152_0.out) | (with_reducible refine Kd.C_alloc ?_ _) | (with_reducible refine Kd.C_drewN ?_ _) | (with_reducible refine Kd.C_drew ?_) | exact HR152_0.out)) hb); have BK164 := Aside0.mk (hbox); have GW164 := Aside0.mk ((by rw [hg]; exact (below_size (qS3 GE101 GE108 GE113 HB.out)) : w.heap.size ≤ gb164)); have GE164 := Aside0.mk ((by rw [hg]; exact (below_size (qS3 GE101 GE108 GE113 HB.out)) : w.heap.size ≤ gb164)); replace HB := Aside0.mk (below_step (qS3 GE101 GE108 GE113 HB.out) hb); have NB101_164 := Aside0.mk ((qqc : gb101 ≠ gb164)); have NB164_101 := Aside0.mk ((qqd : gb164 ≠ gb101)); replace BK101 := Aside0.mk (blk_below (bq BK101.out) hb); have NB108_164 := Aside0.mk ((by rw [hg]; exact Nat.ne_of_lt (blk_lt (bq BK108.out)) : gb108 ≠ gb164)); have NB164_108 := Aside0.mk ((by rw [hg]; exact Nat.ne_of_gt (blk_lt (bq BK108.out)) : gb164 ≠ gb108)); replace BK108 := Aside0.mk (blk_below (bq BK108.out) hb); have NB113_164 := Aside0.mk ((qqR : gb113 ≠ gb164)); have NB164_113 := Aside0.mk ((qqS : gb164 ≠ gb113)); replace BK113 := Aside0.mk (blk_below (bq BK113.out) hb); clear hb hbox hg; have hnb97 := NB164_101.out; have hnc97 := NB101_164.out; have hnb98 := NB164_108.out; have hnc98 := NB108_164.out; have hnb99 := NB164_113.out; have hnc99 := NB113_164.out; obtain ⟨hcz100_0, hcz100_1, hcz100_2, hfz100_0, hfz100_1, hfz100_2⟩ := blk3 BK164.out; obtain ⟨Ao101, co101, eo101⟩ := Kd.N_slice HO161.out; subst eo101) | (go_at_call 14; (refine (smf_Same.calls k t157 t158 _ _ t159 0 0 _ _ ([] : List (List (S28))) t165 _ ?side1 ?side2 ?side3 ?side4 A49.out).mono ?_); (case side1 => refine (Kd.N_reads' (e := 30) (base := w.heap.size) (ok := fun k_ => ((some k_ ≠ (.slice (some ad109) t105.length co57 : Value).ownBlock ∧ (some k_ ≠ (.slice (some ⟨go16, 0, none⟩) y110.length co65 : Value).ownBlock ∧ (k_ ≠ gb101 ∧ (k_ ≠ gb108 ∧ k_ ≠ gb113)))) ∧ k_ ≠ gb164)) (n := t159.length) (c := co101) ?_).2.2; exact qqy); (case side2 => exact (Kd.N_reads' HO161.out).2.1); (case side3 => exact Kd.C_nil _ _); (case side4 => exact Nat.le_refl _); rintro e w102 ⟨rfl, hb⟩; replace HO107 := Aside0.mk (Kd.N_below (by (with_reducible repeat (first | apply Kd.N_alloc | apply Kd.N_drewN | apply Kd.N_drew)); exact (Kd.N_mono (Kd.N_far (p := ⟨gb164, 2, none⟩) (Kd.N_far (p := ⟨gb164, 1, none⟩) (Kd.N_far (p := ⟨gb164, 0, none⟩) (Kd.N_mono HO107.out (fun k_ hk => (⟨hk, hk.2⟩ : _ ∧ k_ ≠ gb164))) (fun _ hk => hk.2) (.int .i64 t157)) (fun _ hk => hk.2) (.int .i64 t158)) (fun _ hk => hk.2) (.slice Ao101 t159.length co101)) (fun _ h_ => h_.1))) hb); replace HL109_0 := Aside0.mk (Kd.V_below (by (with_reducible repeat (first | apply Kd.V_alloc | apply Kd.V_drewN | apply Kd.V_drew)); exact (Kd.V_mono (Kd.V_far (p := ⟨gb164, 2, none⟩) (Kd.V_far (p := ⟨gb164, 1, none⟩) (Kd.V_far (p := ⟨gb164, 0, none⟩) (Kd.V_mono HL109_0.out (fun k_ hk => (⟨hk, hk.2⟩ : _ ∧ k_ ≠ gb164))) (fun _ hk => hk.2) (.int .i64 t157)) (fun _ hk => hk.2) (.int .i64 t158)) (fun _ hk => hk.2) (.slice Ao101 t159.length co101)) (fun _ h_ => h_.1))) hb); replace HO112 := Aside0.mk (Kd.N_below (by (with_reducible repeat (first | apply Kd.N_alloc | apply Kd.N_drewN | apply Kd.N_drew)); exact (Kd.N_mono (Kd.N_far (p := ⟨gb164, 2, none⟩) (Kd.N_far (p := ⟨gb164, 1, none⟩) (Kd.N_far (p := ⟨gb164, 0, none⟩) (Kd.N_mono HO112.out (fun k_ hk => (⟨hk, hk.2⟩ : _ ∧ k_ ≠ gb164))) (fun _ hk => hk.2) (.int .i64 t157)) (fun _ hk => hk.2) (.int .i64 t158)) (fun _ hk => hk.2) (.slice Ao101 t159.length co101)) (fun _ h_ => h_.1))) hb); replace HO118 := Aside0.mk (Kd.V_below (by (with_reducible repeat (first | apply Kd.V_alloc | apply Kd.V_drewN | apply Kd.V_drew)); exact (Kd.V_mono (Kd.V_far (p := ⟨gb164, 2, none⟩) (Kd.V_far (p := ⟨gb164, 1, none⟩) (Kd.V_far (p := ⟨gb164, 0, none⟩) (Kd.V_mono HO118.out (fun k_ hk => (⟨hk, hk.2⟩ : _ ∧ k_ ≠ gb164))) (fun _ hk => hk.2) (.int .i64 t157)) (fun _ hk => hk.2) (.int .i64 t158)) (fun _ hk => hk.2) (.slice Ao101 t159.length co101)) (fun _ h_ => h_.1))) hb); replace HO126 := Aside0.mk (Kd.V_below (by (with_reducible repeat (first | apply Kd.V_alloc | apply Kd.V_drewN | apply Kd.V_drew)); exact (Kd.V_mono (Kd.V_far (p := ⟨gb164, 2, none⟩) (Kd.V_far (p := ⟨gb164, 1, none⟩) (Kd.V_far (p := ⟨gb164, 0, none⟩) (Kd.V_mono HO126.out (fun k_ hk => (⟨hk, hk.2⟩ : _ ∧ k_ ≠ gb164))) (fun _ hk => hk.2) (.int .i64 t157)) (fun _ hk => hk.2) (.int .i64 t158)) (fun _ hk => hk.2) (.slice Ao101 t159.length co101)) (fun _ h_ => h_.1))) hb); replace HO143 := Aside0.mk (Kd.V_below (by (with_reducible repeat (first | apply Kd.V_alloc | apply Kd.V_drewN | apply Kd.V_drew)); exact (Kd.V_mono (Kd.V_far (p := ⟨gb164, 2, none⟩) (Kd.V_far (p := ⟨gb164, 1, none⟩) (Kd.V_far (p := ⟨gb164, 0, none⟩) (Kd.V_mono HO143.out (fun k_ hk => (⟨hk, hk.2⟩ : _ ∧ k_ ≠ gb164))) (fun _ hk => hk.2) (.int .i64 t157)) (fun _ hk => hk.2) (.int .i64 t158)) (fun _ hk => hk.2) (.slice Ao101 t159.length co101)) (fun _ h_ => h_.1))) hb); replace HO161 := Aside0.mk (Kd.N_below qqy hb); replace BK101 := Aside0.mk (blk_below (g := gb101) (o := .cells #[.int .i64 a0_0, .int .i64 a0_1, .slice A0_2 l0_2.length c0_2] 24 (0, 0)) (by refine bq ?_; refine blk_far ?_ NB101_164.out _; refine bq ?_; refine blk_far ?_ NB101_164.out _; refine bq ?_; refine blk_far ?_ NB101_164.out _; exact bq BK101.out) hb); replace BK108 := Aside0.mk (blk_below (g := gb108) (o := .cells #[.int .i64 t103, .int .i64 t104, .slice (some ad109) t105.length co57] 24 (0, 0)) (by refine bq ?_; refine blk_far ?_ NB108_164.out _; refine bq ?_; refine blk_far ?_ NB108_164.out _; refine bq ?_; refine blk_far ?_ NB108_164.out _; exact bq BK108.out) hb); replace BK113 := Aside0.mk (blk_below (g := gb113) (o := .cells #[.int .i64 t103, .int .i64 t104, .slice (some ⟨go16, 0, none⟩) y110.length co65] 24 (0, 0)) (by refine bq ?_; refine blk_far ?_ NB113_164.out _; refine bq ?_; refine blk_far ?_ NB113_164.out _; refine bq ?_; refine blk_far ?_ NB113_164.out _; exact bq BK113.out) hb); replace HR152_0 := Aside0.mk (Kd.C_below ((Kd.V_reads' qqx).2.2) hb); replace HL152_0 := Aside0.mk (Kd.V_below qqx hb); replace BK164 := Aside0.mk (blk_below (g := gb164) (o := .cells #[.int .i64 t157, .int .i64 t158, .slice Ao101 t159.length co101] 24 (0, 0)) (by refine bq ?_; refine blk_put (cs := #[.int .i64 t157, .int .i64 t158, .slice none 0 0]) ?_ 2 _ rfl; refine bq ?_; refine blk_put (cs := #[.int .i64 t157, .int .i64 0, .slice none 0 0]) ?_ 1 _ rfl; refine bq ?_; refine blk_put (cs := #[.int .i64 0, .int .i64 0, .slice none 0 0]) ?_ 0 _ rfl; exact bq BK164.out) hb); replace HB := Aside0.mk (below_step (qS4 GE101 GE108 GE113 GE164 HB.out) hb); (try clear hb); (try clear hb2); (try clear hk); (try clear hi)))
  go_ret
  exact ⟨by first | rfl | (simp [errW_none, errW_some] <;> rfl) | (simp only [← hji8, ← hji12, ← hji19]; first | rfl | (simp [errW_none, errW_some] <;> rfl)) | (simp [*, errW_none, errW_some] <;> rfl), qS4 GE101 GE108 GE113 GE164 HB.out⟩
end Go.Proofs.Ytdmnknhlibaaoaa.M
namespace Go.Proofs.Ytdmnknhlibaaoaa.Z
open Go.RowKit Go.Proofs.YtdmnknhlibaaoaaW.PrintWords Go.Proofs.YtdmnknhlibaaoaaW.PrintLast Go.Proofs.YtdmnknhlibaaoaaW.PrintMore Go.Proofs.Ytdmnknhlibaaoaa.M
set_option linter.unusedVariables false
theorem endsB_none : ∀ {a : List Msg}, (∀ m ∈ a, isEnd m = false) → endsB a = false
  | [], _ => rfl
  | [m], h => h m (by simp)
  | m :: n :: r, h => by
    show (!isEnd m && endsB (n :: r)) = false
    rw [endsB_none (fun x hx => h x (by simp [hx])), Bool.and_false]
theorem endsB_two : ∀ {x : List Msg} {e : Msg} {y : List Msg}, isEnd e = true → y ≠ [] → endsB (x ++ e :: y) = false
  | [], e, [], _, hy => absurd rfl hy
  | [], e, n :: r, he, _ => by
    show (!isEnd e && endsB (n :: r)) = false
    rw [he]
    rfl
  | [m], e, y, he, hy => by
    show (!isEnd m && endsB (e :: y)) = false
    rw [show endsB (e :: y) = false from endsB_two (x := []) he hy, Bool.and_false]
  | m :: n :: r, e, y, he, hy => by
    show (!isEnd m && endsB ((n :: r) ++ e :: y)) = false
    rw [endsB_two (x := n :: r) he hy, Bool.and_false]
theorem checkL_set : ∀ {ts : List (List Msg)} {i : Int} {K : Nat} {l : List Msg}, K < ts.length → (∀ x ∈ ts, Rights x ∧ endsB x = true) → Rights l → endsB l = false → checkL (ts.set K l) i = (i + K, 160)
  | [], _, _, _, h, _, _, _ => by simp at h
  | x :: r, i, 0, l, _, _, hr, he => by
    show checkL (l :: r) i = _
    rw [checkL, if_neg (fun c => (any_wrong l).1 c hr), if_neg (by rw [he]; decide)]
    simp
  | x :: r, i, K + 1, l, hK, h, hr, he => by
    obtain ⟨h1, h2⟩ := h x (by simp)
    show checkL (x :: r.set K l) i = _
    rw [checkL, if_neg (fun c => (any_wrong x).1 c h1), if_pos h2, checkL_set (by simpa using hK) (fun y hy => h y (by simp [hy])) hr he]
    congr 1
    omega
theorem totT_set : ∀ (ts : List (List Msg)) (K : Nat) (l : List Msg), totT (ts.set K l) ≤ totT ts + (tot l + 8)
  | [], _, _ => Nat.zero_le _
  | x :: r, 0, l => by show tot l + 8 + totT r ≤ _; rw [totT]; omega
  | x :: r, K + 1, l => by show tot x + 8 + totT (r.set K l) ≤ _; rw [totT]; have := totT_set r K l; omega
theorem FR.headBad {f d : Int} {ts : List (List Msg)} (h : FR f d ts) : headBad f d ts.length = false := by
  have hc := h.check
  unfold checkM at hc
  cases hb : Z.headBad f d ts.length with
  | false => rfl
  | true => rw [hb, if_pos rfl] at hc; injection hc with _ h2; cases h2
theorem check_set {f d : Int} {ts : List (List Msg)} (h : FR f d ts) {K : Nat} (hK : K < ts.length) {l : List Msg} (hr : Rights l) (he : endsB l = false) : checkM f d (ts.set K l) = ((K : Int), 160) := by
  unfold checkM
  rw [List.length_set, h.headBad, if_neg (by decide), checkL_set hK h.tr hr he]
  simp
theorem big_f (n : Int) : partitalaw16_big.f n = some (strOfNums (four n)) := rfl
theorem rdL_set (ts : List (List Msg)) (K : Nat) (l : List Msg) (h : K < ts.length) : rd_L3 (ts.set K l) (K : Int) = l := by
  unfold rd_L3
  rw [Int.toNat_natCast, List.getD_eq_getElem?_getD, List.getElem?_set_self h]
  rfl
theorem smfEnds {f d a1 a2 : Int} {L : List (List Msg)} (hf : I64 f) (hd : I64 d) (hL : Raws L) (h10 : 0 ≤ a1) (h11 : a1 ≤ 255) (h20 : 0 ≤ a2) (h21 : a2 ≤ 255) : Ev (fun k => partitalaw16_SmfEnds.f k f d L a1 a2) true := by
  obtain ⟨f1, d1, ts, e1, g1⟩ := file_ev hf hd hL
  have h1 := gf_fr g1
  have hn1 : 1 ≤ ts.length := h1.head.2.2.2.1
  have hn2 : ts.length ≤ 16 := h1.head.2.2.2.2.1
  refine Ev.bind examples_ev (Ev.yes rfl (Ev.bind e1 ?_))
  dsimp only
  have ew1 : wrap64 a1 = a1 := w64 (by omega) (by omega)
  have ew2 : wrap64 a2 = a2 := w64 (by omega) (by omega)
  rw [ew1, ew2]
  obtain ⟨k0, k1⟩ := tmod_range (x := a1) (n := (ts.length : Int)) h10 (by omega)
  generalize Int.tmod a1 (ts.length : Int) = q at k0 k1 ⊢
  obtain ⟨K, rfl⟩ : ∃ K : Nat, q = (K : Int) := ⟨q.toNat, by omega⟩
  have hK : K < ts.length := by omega
  have hm := rdL_mem ts K hK
  have hg := g1.2.2.2.2.2.2 _ hm
  generalize hl : rd_L3 ts (K : Int) = l at hm hg
  obtain ⟨hR, hE, hT, hLn⟩ := gt_facts hg
  obtain ⟨a, rfl, ha1, ha2⟩ := hg
  have hll : (a ++ [endM (a.length : Int)]).length = a.length + 1 := by rw [List.length_append]; rfl
  have ewl : wrap64 (((a ++ [endM (a.length : Int)]).length : Int) - 1) = (a.length : Int) := by rw [hll, w64 (by omega) (by omega)]; omega
  have htk : (a ++ [endM (a.length : Int)]).take a.length = a := List.take_left
  have hRa : Rights a := fun m h => hR m (List.mem_append.2 (.inl h))
  have hEa : endsB a = false := endsB_none (fun m h => (ha2 m h).2.1)
  obtain ⟨p0, p1⟩ := tmod_range (x := a2) (n := ((a ++ [endM (a.length : Int)]).length : Int)) h20 (by omega)
  rw [ewl]
  generalize hp : Int.tmod a2 ((a ++ [endM (a.length : Int)]).length : Int) = q at p0 p1 ⊢
  obtain ⟨P, rfl⟩ : ∃ P : Nat, q = (P : Int) := ⟨q.toNat, by omega⟩
  rw [Int.toNat_natCast, Int.toNat_natCast, Int.toNat_natCast, htk]
  generalize hla : a ++ [endM (a.length : Int)] = la at *
  have hne : la.drop P ≠ [] := by intro h; have := congrArg List.length h; rw [List.length_drop] at this; simp at this; omega
  generalize hl2 : la.take P ++ endM 0 :: la.drop P = l2
  have hR2 : Rights l2 := by
    intro m h
    rw [← hl2] at h
    rcases List.mem_append.1 h with h | h
    · exact hR m (List.mem_of_mem_take h)
    · rcases List.mem_cons.1 h with rfl | h
      · exact endM_right (n := 0) (by omega)
      · exact hR m (List.mem_of_mem_drop h)
  have hE2 : endsB l2 = false := by rw [← hl2]; exact endsB_two rfl hne
  have ht2 : tot l2 ≤ 2740 := by
    have h3 := tot_app (la.take P) (la.drop P)
    rw [List.take_append_drop] at h3
    rw [← hl2, tot_app]
    show tot (la.take P) + ((endM 0).f5.size + 10 + tot (la.drop P)) ≤ 2740
    have : (endM 0).f5.size = 0 := rfl
    omega
  have hq1 := check_set h1 hK hRa hEa
  have hq2 := check_set h1 hK hR2 hE2
  have hS1 : Small (ts.set K a) := ⟨by rw [List.length_set]; omega, fun x hx => by
    rcases List.mem_or_eq_of_mem_set hx with hx | rfl
    · exact h1.small.2 x hx
    · omega⟩
  have hS2 : Small (ts.set K l2) := ⟨by rw [List.length_set]; omega, fun x hx => by
    rcases List.mem_or_eq_of_mem_set hx with hx | rfl
    · exact h1.small.2 x hx
    · have := tot_len2 x; omega⟩
  have hTT : totT (ts.set K l2) ≤ 1000000000 := by have := totT_set ts K l2; have := h1.sm; omega
  have c1 := check_ev f1 d1 (ts.set K a) hS1
  have c2 := check_ev f1 d1 (ts.set K l2) hS2
  have c3 := print_ev f1 d1 (ts.set K l2) hS2 hTT
  rw [hq1] at c1
  rw [hq2] at c2
  rw [hq2, if_neg (show ¬ ((K : Int), (160 : Int)).2 = 0 from by show ¬ (160 : Int) = 0; decide)] at c3
  have hen := enc_tot l2 0
  have hes : (strOfNums (enc 0 l2)).size = (enc 0 l2).length := str_size _
  refine Ev.no (by omega) (Ev.yes (by omega) (Ev.yes (by omega) (Ev.yes (by simp; omega) (Ev.bind (Ev.now _) ?_))))
  rw [List.nil_append]
  refine Ev.yes (by omega) (Ev.yes (by omega) (Ev.yes (by omega) (Ev.bind (Ev.now _) (Ev.bind c1 ?_))))
  dsimp only
  refine Ev.no (by omega) (Ev.yes (by omega) (Ev.yes (by omega) (Ev.bind (Ev.now _) ?_)))
  rw [List.nil_append]
  refine Ev.yes (by simp; omega) (Ev.bind (Ev.now _) (Ev.bind (Ev.eq (end_f 0)) (Ev.yes (by rw [List.length_take]; omega) (Ev.bind (Ev.now _) (Ev.bind (Ev.now _) (Ev.yes (by simp; omega) (Ev.bind (Ev.now _) ?_)))))))
  have e2 : la.take P ++ [(⟨(endM 0).f0, (endM 0).f1, (endM 0).f2, (endM 0).f3, (endM 0).f4, (endM 0).f5⟩ : S28)] ++ la.drop P = l2 := by rw [← hl2, List.append_assoc]; rfl
  dsimp only
  rw [e2, List.set_set, rdL_set ts K l2 hK]
  refine Ev.bind c2 (Ev.bind c3 (Ev.bind (encode_ok hR2 (by omega)) ?_))
  dsimp only
  refine Ev.bind (Ev.eq (big_f 6)) ?_
  have hz4 : ∀ n, (strOfNums (four n)).size = 4 := fun n => by rw [str_size]; rfl
  have hl4 : (⟨#[77, 84, 104, 100]⟩ : ByteArray).size = 4 := rfl
  have hl6 : (⟨#[0, 0, 0, 1, 0, 96]⟩ : ByteArray).size = 6 := rfl
  have ht4 : (⟨#[77, 84, 114, 107]⟩ : ByteArray).size = 4 := rfl
  refine Ev.yes (by rw [hz4]; omega) (Ev.yes (by simp only [ByteArray.size_append, hz4, hl4]; omega) (Ev.yes (by simp only [ByteArray.size_append, hz4, hl4, hl6]; omega) (Ev.bind (Ev.eq (big_f _)) (Ev.yes (by simp only [ByteArray.size_append, hz4, hl4, hl6, ht4]; omega) (Ev.yes (by simp only [ByteArray.size_append, hz4, hl4, hl6, ht4, hes]; omega) ?_)))))
  rw [hes]
  generalize hfile : ((((((⟨#[77, 84, 104, 100]⟩ : ByteArray) ++ strOfNums (four 6)) ++ (⟨#[0, 0, 0, 1, 0, 96]⟩ : ByteArray)) ++ (⟨#[77, 84, 114, 107]⟩ : ByteArray)) ++ strOfNums (four ((enc 0 l2).length : Int))) ++ strOfNums (enc 0 l2)) = file
  have hsz : file.size = 22 + (enc 0 l2).length := by rw [← hfile]; simp only [ByteArray.size_append, hz4, hl4, hl6, ht4, hes]
  have hb : bytesOf file = headB 0 96 1 ++ (trkL ++ (four ((enc 0 l2).length : Int) ++ (enc 0 l2 ++ []))) := by
    rw [← hfile]
    simp only [bytesOf_append]
    rw [bytesOf_str (four_bytes _), bytesOf_str (four_bytes _), bytesOf_str (enc_bytes hR2)]
    simp only [List.append_assoc, List.append_nil]
    rfl
  have hpr : PrR 1 (trkL ++ (four ((enc 0 l2).length : Int) ++ (enc 0 l2 ++ []))) (.error ((enc 0 l2).length + ([] : List Int).length, 160)) := .err (.noend rfl (by rw [val4_four (by omega) (by omega)]) (dec_enc0 hR2 (.inl rfl)) hE2)
  have hpa := parse_right (s := file) (by omega) (f := 0) (d := 96) (n := 1) ⟨.inl rfl, by decide, by decide, by decide, by decide, fun _ => rfl⟩ hb hpr
  refine Ev.bind hpa ?_
  dsimp only
  refine Ev.yes rfl (Ev.yes rfl (Ev.yes rfl (Ev.yes rfl (Ev.yes rfl (Ev.yes ?_ (Ev.yes rfl (Ev.yes rfl (Ev.yes ?_ (Ev.bind (same_ev 0 0 [] 0 0 [] ⟨by simp, fun l hl => by cases hl⟩) (Ev.ok (Ev.now _) (by simp)))))))))))
  · rw [Lib.toList_data]
  · rw [hsz]; simp
end Go.Proofs.Ytdmnknhlibaaoaa.Z
