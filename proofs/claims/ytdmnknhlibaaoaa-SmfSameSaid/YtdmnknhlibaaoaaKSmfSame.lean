/- What the statement SmfSame alone needs: its printed function, and its pure part (part 1). -/
import Derived.Test.YtdmnknhlibaaoaaCW
import Derived.Test.YtdmnknhlibaaoaaC1
import Derived.Test.YtdmnknhlibaaoaaC2
import Derived.Test.YtdmnknhlibaaoaaC4
import Derived.Test.YtdmnknhlibaaoaaC3
namespace Go.Proofs.Ytdmnknhlibaaoaa.M
open Go.RowKit Go.Proofs.YtdmnknhlibaaoaaW.PrintWords Go.Proofs.YtdmnknhlibaaoaaW.PrintLast Go.Proofs.YtdmnknhlibaaoaaW.PrintMore
attribute [local go_sem] max2_int min2_int max_two min_two max_three min_three max_four min_four
set_option linter.unusedVariables false
set_option linter.unusedSimpArgs false
def row5 (l : List S28) (j : Int) : List S28 := l.set j.toNat { rd_T28 l j with f0 := 5000 }
def chg (ys ts : List (List S28)) (a : Int) : List (List S28) := ys.set (Int.tmod (wrap64 a) (ts.length : Int)).toNat (row5 (rd_L3 ys (Int.tmod (wrap64 a) (ts.length : Int))) (Int.tmod (wrap64 a) ((rd_L3 ts (Int.tmod (wrap64 a) (ts.length : Int))).length : Int)))
theorem rd_set3 (ys : List (List S28)) (i : Int) (x : List S28) (h0 : 0 ≤ i) (h1 : i < (ys.length : Int)) : rd_L3 (ys.set i.toNat x) i = x := by
  unfold rd_L3
  rw [List.getD_eq_getElem?_getD, List.getElem?_set_self (by omega)]
  rfl
theorem setCell_comm (w : World) (p q : Addr) (u v : Value) (h : p.block ≠ q.block) : (w.setCell p u).setCell q v = (w.setCell q v).setCell p u := by
  unfold World.setCell
  congr 1
  apply Array.ext_getElem?
  intro i
  simp only [Array.getElem?_modify]
  by_cases c : p.block = i
  · by_cases d : q.block = i
    · exact absurd (c.trans d.symm) h
    · simp [c, d]
  · by_cases d : q.block = i
    · simp [c, d]
    · simp [c, d]
def partitalaw16_SmfSame.f (k : Nat) (a0_0 : Int) (a0_1 : Int) (l0_2 : List (List (S28))) (a1_0 : Int) (a1_1 : Int) (l1_2 : List (List (S28))) (a2 : Int) : Option (Bool) := (partitalaw16_examples.f k).bind fun t103 => (if t103 = true then ((partitalaw16_File.f k a0_0 a0_1 l0_2).bind fun bt104 => ((partitalaw16_File.f k a1_0 a1_1 l1_2).bind fun bt110 => (if ([] : List (List (S28))).length + bt104.2.2.length < 5864062014805 then ((some (([] : List (List (S28))) ++ bt104.2.2 : List (List (S28)))).bind fun y118 => ((partitalaw16_End.f 0).bind fun bt121 => (if y118.length < 5864062014805 then (if (bt104.2.2.length : Int) = 0 then (none) else ((some (([] : List (List (S28))) ++ bt104.2.2 : List (List (S28)))).bind fun y134 => (if 0 ≤ (Int.tmod (wrap64 (a2)) (bt104.2.2.length : Int)) then (if (Int.tmod (wrap64 (a2)) (bt104.2.2.length : Int)) < (bt104.2.2.length : Int) then (if ([] : List (S28)).length + (rd_L3 bt104.2.2 (Int.tmod (wrap64 (a2)) (bt104.2.2.length : Int))).length < 2513169434916 then (if (Int.tmod (wrap64 (a2)) (bt104.2.2.length : Int)) < (y134.length : Int) then ((some (y134.set ((Int.tmod (wrap64 (a2)) (bt104.2.2.length : Int)) : Int).toNat (([] : List (S28)) ++ (rd_L3 bt104.2.2 (Int.tmod (wrap64 (a2)) (bt104.2.2.length : Int)))) : List (List (S28)))).bind fun y141 => (if ((rd_L3 bt104.2.2 (Int.tmod (wrap64 (a2)) (bt104.2.2.length : Int))).length : Int) = 0 then (none) else (if 0 ≤ (Int.tmod (wrap64 (a2)) ((rd_L3 bt104.2.2 (Int.tmod (wrap64 (a2)) (bt104.2.2.length : Int))).length : Int)) then (if (Int.tmod (wrap64 (a2)) ((rd_L3 bt104.2.2 (Int.tmod (wrap64 (a2)) (bt104.2.2.length : Int))).length : Int)) < ((rd_L3 y141 (Int.tmod (wrap64 (a2)) (bt104.2.2.length : Int))).length : Int) then ((smf_Same.f k bt104.1 bt104.2.1 bt104.2.2 bt104.1 bt104.2.1 bt104.2.2).bind fun t145 => (if t145 = true then ((smf_Same.f k bt104.1 bt104.2.1 bt104.2.2 bt110.1 bt110.2.1 bt110.2.2).bind fun t146 => ((smf_Same.f k bt110.1 bt110.2.1 bt110.2.2 bt104.1 bt104.2.1 bt104.2.2).bind fun t147 => (if (t146 == t147) = true then ((smf_Same.f k bt104.1 bt104.2.1 bt104.2.2 bt104.1 (wrap64 (1 + (Int.tmod bt104.2.1 32767))) bt104.2.2).bind fun t148 => (if t148 = true then (none) else ((smf_Same.f k bt104.1 bt104.2.1 bt104.2.2 bt104.1 bt104.2.1 (y118 ++ [(([(⟨bt121.1, bt121.2.1, bt121.2.2.1, bt121.2.2.2.1, bt121.2.2.2.2.1, bt121.2.2.2.2.2⟩ : S28)] : List (S28)))])).bind fun t149 => (if t149 = true then (none) else ((smf_Same.f k bt104.1 bt104.2.1 bt104.2.2 bt104.1 bt104.2.1 (chg y141 bt104.2.2 a2)).bind fun t150 => (if t150 = true then (none) else ((partitalaw16_File.f k a0_0 a0_1 l0_2).bind fun bt151 => ((smf_Same.f k bt104.1 bt104.2.1 bt104.2.2 bt151.1 bt151.2.1 bt151.2.2).bind fun t156 => (some t156))))))))) else (none)))) else (none))) else (none)) else (none)))) else (none)) else (none)) else (none)) else (none)))) else (none)))) else (none)))) else (some false))
theorem partitalaw16_SmfSame.mono : ∀ a0 a1 a2 a3 a4 a5 a6 k, LeO (partitalaw16_SmfSame.f k a0 a1 a2 a3 a4 a5 a6) (partitalaw16_SmfSame.f (k + 1) a0 a1 a2 a3 a4 a5 a6) := by
  intro a0 a1 a2 a3 a4 a5 a6 k
  unfold partitalaw16_SmfSame.f
  repeat' first
      | (with_reducible exact partitalaw16_File.mono _ _ _ _)
      | (with_reducible exact partitalaw16_examples.mono _)
      | (with_reducible exact smf_Same.mono _ _ _ _ _ _ _)
      | (with_reducible exact LeO.refl _)
      | (with_reducible exact LeO.none _)
      | (with_reducible refine LeO.ite ?_ ?_)
      | (with_reducible refine LeO.bind ?_ (fun _ => ?_))
      | exact partitalaw16_File.mono _ _ _ _
      | exact partitalaw16_examples.mono _
      | exact smf_Same.mono _ _ _ _ _ _ _
      | exact LeO.none _
      | refine LeO.ite ?_ ?_
      | refine LeO.bind ?_ (fun _ => ?_)
def partitalaw16_SmfSame.T13 : Bool × List (List Nat × List Nat) := (true, [([], []), ([0], [0]), ([], []), ([], []), ([3], [3]), ([], []), ([4, 5], [4, 5]), ([6], [6]), ([7], [7]), ([1, 2, 0, 1, 2, 3, 4, 5, 6, 7, 8], [1, 2]), ([9, 8, 8, 0, 1, 2, 3, 4, 5, 6, 7, 8], [8, 9])])
def partitalaw16_SmfSame.B13 : List Nat := [0, 1, 0, 0, 8, 0, 56, 120, 248, 511, 1023]
theorem partitalaw16_SmfSame.tab13 : rtab .any (opsOf Try.f3 13) = partitalaw16_SmfSame.T13 := by kernel_rfl
theorem partitalaw16_SmfSame.bits13 : waitsOk partitalaw16_SmfSame.T13.2 partitalaw16_SmfSame.B13 = true := by kernel_rfl
def partitalaw16_SmfSame.T14 : Bool × List (List Nat × List Nat) := (true, [([], []), ([0], [0]), ([], []), ([1, 2], [1, 2]), ([3], [3]), ([], []), ([5], [5]), ([], []), ([7], [7]), ([], []), ([8, 9], [8, 9]), ([10], [10]), ([11], [11]), ([6, 12], [6, 12]), ([4, 13, 0, 1, 2, 3, 4, 5, 6, 7, 8, 9, 10, 11, 12, 13], [4, 13]), ([14, 0, 1, 2, 3, 4, 5, 6, 7, 8, 9, 10, 11, 12, 13], [14]), ([15, 0, 1, 2, 3, 4, 5, 6, 7, 8, 9, 10, 11, 12, 13], [15])])
def partitalaw16_SmfSame.B14 : List Nat := [0, 1, 0, 7, 15, 0, 32, 0, 128, 0, 896, 1920, 3968, 8160, 16383, 32767, 65535]
theorem partitalaw16_SmfSame.tab14 : rtab .any (opsOf Try.f3 14) = partitalaw16_SmfSame.T14 := by kernel_rfl
theorem partitalaw16_SmfSame.bits14 : waitsOk partitalaw16_SmfSame.T14.2 partitalaw16_SmfSame.B14 = true := by kernel_rfl
def partitalaw16_SmfSame.T15 : Bool × List (List Nat × List Nat) := (true, [([], []), ([0], [0]), ([1], [1]), ([1], [1]), ([2, 3, 1, 1], [1, 2, 3]), ([1, 4], [1, 4]), ([5, 4], [5]), ([6], [6]), ([6], [6]), ([7, 8, 6, 6], [6, 7, 8]), ([6], [6]), ([6], [6]), ([10, 11, 9, 6], [6, 10, 11]), ([9, 12, 6], [6, 9, 12]), ([6, 13], [6, 13]), ([14, 12], [14]), ([15], [15]), ([15], [15]), ([16, 17, 15, 15], [15, 16, 17]), ([18, 15], [15, 18]), ([15, 19], [15, 19]), ([20, 18], [20]), ([21], [21]), ([21], [21]), ([22, 23, 21, 21], [21, 22, 23]), ([24, 21], [21, 24]), ([21, 25], [21, 25]), ([26, 24], [26]), ([27], [27]), ([27], [27]), ([28, 29, 27, 27], [27, 28, 29]), ([30, 27], [27, 30]), ([27, 31], [27, 31]), ([32, 30], [32]), ([33], [33]), ([33], [33]), ([35, 33, 33], [33, 35]), ([34, 36, 36, 33], [33, 34, 36]), ([33, 37], [33, 37]), ([38, 37, 0, 1, 2, 3, 4, 5, 6, 7, 8, 9, 10, 11, 12, 13, 14, 15, 16, 17, 18, 19, 20, 21, 22, 23, 24, 25, 26, 27, 28, 29, 30, 31, 32, 33, 34, 35, 36, 37, 38], [38])])
def partitalaw16_SmfSame.B15 : List Nat := [0, 1, 3, 3, 15, 31, 63, 127, 127, 511, 127, 127, 4095, 8191, 16383, 32767, 65535, 65535, 262143, 524287, 1048575, 2097151, 4194303, 4194303, 16777215, 33554431, 67108863, 134217727, 268435455, 268435455, 1073741823, 2147483647, 4294967295, 8589934591, 17179869183, 17179869183, 51539607551, 137438953471, 274877906943, 549755813887]
theorem partitalaw16_SmfSame.tab15 : rtab .any (opsOf Try.f3 15) = partitalaw16_SmfSame.T15 := by kernel_rfl
theorem partitalaw16_SmfSame.bits15 : waitsOk partitalaw16_SmfSame.T15.2 partitalaw16_SmfSame.B15 = true := by kernel_rfl
set_option maxHeartbeats 8000000 in
set_option maxRecDepth 100000 in
theorem partitalaw16_SmfSame.calls (k : Nat) (a0_0 : Int) (a0_1 : Int) (A0_2 : Option Addr) (c0_2 : Nat) (l0_2 : List (List (S28))) (a1_0 : Int) (a1_1 : Int) (A1_2 : Option Addr) (c1_2 : Nat) (l1_2 : List (List (S28))) (a2 : Int) (r : Bool) (w : World) (hr0_2 : Kd.C (Kd.slice 28 k28) w A0_2 l0_2.length l0_2) (hc0_2 : l0_2.length ≤ c0_2) (hr1_2 : Kd.C (Kd.slice 28 k28) w A1_2 l1_2.length l1_2) (hc1_2 : l1_2.length ≤ c1_2) (h : partitalaw16_SmfSame.f k a0_0 a0_1 l0_2 a1_0 a1_1 l1_2 a2 = some r) :
    Calls Try.prog 3 #[.agg #[.int .i64 a0_0, .int .i64 a0_1, .slice A0_2 l0_2.length c0_2], .agg #[.int .i64 a1_0, .int .i64 a1_1, .slice A1_2 l1_2.length c1_2], .int .u8 a2] w fun e w' => e = .returned (.bool r) ∧ Below w.heap.size w w' := by
  have hu24 := Try.underlying24
  have HR0_2 := Aside0.mk hr0_2
  have HC0_2 := Aside0.mk hc0_2
  clear hr0_2 hc0_2
  have HR1_2 := Aside0.mk hr1_2
  have HC1_2 := Aside0.mk hc1_2
  clear hr1_2 hc1_2
  have HB := Aside0.mk (Below.refl w.heap.size w)
  have H := h
  unfold partitalaw16_SmfSame.f at H
  clear h
  replace H := Option.bind_eq_some_iff.mp H
  obtain ⟨t103, A40, H⟩ := H
  try dsimp -simprocs only at H
  have A4 := Aside0.mk A40
  clear A40
  by_cases c5 : t103 = true
  rotate_left
  · replace c5 := Bool.eq_false_iff.mpr c5
    subst c5
    have H1 : (some false) = some r := by rw [if_neg (show ¬ (false = true) by decide)] at H; exact H
    clear H
    have H := H1
    clear H1
    obtain rfl := Option.some.inj H
    go_enter Try.func3, Try.ntmps3
    go_wp2_with (first | ((with_reducible refine gate_dst (N := 3) rfl ?_); refine box_event ?hg (N := 3) ?hd (cs := #[.int .i64 a0_0, .int .i64 a0_1, .slice A0_2 l0_2.length c0_2]) (t := 24) ?hr ?_; (case hd => rfl); (case hg => rfl); (case hr => exact qq6); intro gb101 hg w107 hbox hb; have BK101 := Aside0.mk (hbox); have GW101 := Aside0.mk ((qq9 : w.heap.size ≤ gb101)); have GE101 := Aside0.mk ((qq9 : w.heap.size ≤ gb101)); replace HB := Aside0.mk (below_step (qB HB.out) hb); clear hb hbox hg) | ((with_reducible refine gate_dst (N := 4) rfl ?_); refine box_event ?hg (N := 4) ?hd (cs := #[.int .i64 a1_0, .int .i64 a1_1, .slice A1_2 l1_2.length c1_2]) (t := 24) ?hr ?_; (case hd => rfl); (case hg => rfl); (case hr => exact qq6); intro gb102 hg w108 hbox hb; have BK102 := Aside0.mk (hbox); have GW102 := Aside0.mk ((qqh : w.heap.size ≤ gb102)); have GE102 := Aside0.mk ((qqh : w.heap.size ≤ gb102)); replace HB := Aside0.mk (below_step (qS1 GE101 HB.out) hb); have NB101_102 := Aside0.mk ((qqb : gb101 ≠ gb102)); have NB102_101 := Aside0.mk ((qqc : gb102 ≠ gb101)); replace BK101 := Aside0.mk (blk_below (bq BK101.out) hb); clear hb hbox hg) | ((with_reducible refine gate_callee (f := 11) rfl ?_); refine goesL_ (some 14) rfl rfl Try.func11 (by kernel_rfl) rfl #[] rfl qq0 ?_; (with_reducible refine (partitalaw16_examples.calls k  false _ A4.out).mono ?_); rintro e w109 ⟨rfl, hb⟩; refine ⟨_, rfl, ?_⟩; replace BK101 := Aside0.mk (blk_below (bq BK101.out) hb); replace BK102 := Aside0.mk (blk_below (bq BK102.out) hb); replace HB := Aside0.mk (below_step (qS2 GE101 GE102 HB.out) hb); (try clear hb); (try clear hb2); (try clear hk); (try clear hi)))
    go_ret
    exact ⟨qq5, qS2 GE101 GE102 HB.out⟩
  subst c5
  have H1 : ((partitalaw16_File.f k a0_0 a0_1 l0_2).bind fun bt104 => ((partitalaw16_File.f k a1_0 a1_1 l1_2).bind fun bt110 => (if ([] : List (List (S28))).length + bt104.2.2.length < 5864062014805 then ((some (([] : List (List (S28))) ++ bt104.2.2 : List (List (S28)))).bind fun y118 => ((partitalaw16_End.f 0).bind fun bt121 => (if y118.length < 5864062014805 then (if (bt104.2.2.length : Int) = 0 then (none) else ((some (([] : List (List (S28))) ++ bt104.2.2 : List (List (S28)))).bind fun y134 => (if 0 ≤ (Int.tmod (wrap64 (a2)) (bt104.2.2.length : Int)) then (if (Int.tmod (wrap64 (a2)) (bt104.2.2.length : Int)) < (bt104.2.2.length : Int) then (if ([] : List (S28)).length + (rd_L3 bt104.2.2 (Int.tmod (wrap64 (a2)) (bt104.2.2.length : Int))).length < 2513169434916 then (if (Int.tmod (wrap64 (a2)) (bt104.2.2.length : Int)) < (y134.length : Int) then ((some (y134.set ((Int.tmod (wrap64 (a2)) (bt104.2.2.length : Int)) : Int).toNat (([] : List (S28)) ++ (rd_L3 bt104.2.2 (Int.tmod (wrap64 (a2)) (bt104.2.2.length : Int)))) : List (List (S28)))).bind fun y141 => (if ((rd_L3 bt104.2.2 (Int.tmod (wrap64 (a2)) (bt104.2.2.length : Int))).length : Int) = 0 then (none) else (if 0 ≤ (Int.tmod (wrap64 (a2)) ((rd_L3 bt104.2.2 (Int.tmod (wrap64 (a2)) (bt104.2.2.length : Int))).length : Int)) then (if (Int.tmod (wrap64 (a2)) ((rd_L3 bt104.2.2 (Int.tmod (wrap64 (a2)) (bt104.2.2.length : Int))).length : Int)) < ((rd_L3 y141 (Int.tmod (wrap64 (a2)) (bt104.2.2.length : Int))).length : Int) then ((smf_Same.f k bt104.1 bt104.2.1 bt104.2.2 bt104.1 bt104.2.1 bt104.2.2).bind fun t145 => (if t145 = true then ((smf_Same.f k bt104.1 bt104.2.1 bt104.2.2 bt110.1 bt110.2.1 bt110.2.2).bind fun t146 => ((smf_Same.f k bt110.1 bt110.2.1 bt110.2.2 bt104.1 bt104.2.1 bt104.2.2).bind fun t147 => (if (t146 == t147) = true then ((smf_Same.f k bt104.1 bt104.2.1 bt104.2.2 bt104.1 (wrap64 (1 + (Int.tmod bt104.2.1 32767))) bt104.2.2).bind fun t148 => (if t148 = true then (none) else ((smf_Same.f k bt104.1 bt104.2.1 bt104.2.2 bt104.1 bt104.2.1 (y118 ++ [(([(⟨bt121.1, bt121.2.1, bt121.2.2.1, bt121.2.2.2.1, bt121.2.2.2.2.1, bt121.2.2.2.2.2⟩ : S28)] : List (S28)))])).bind fun t149 => (if t149 = true then (none) else ((smf_Same.f k bt104.1 bt104.2.1 bt104.2.2 bt104.1 bt104.2.1 (chg y141 bt104.2.2 a2)).bind fun t150 => (if t150 = true then (none) else ((partitalaw16_File.f k a0_0 a0_1 l0_2).bind fun bt151 => ((smf_Same.f k bt104.1 bt104.2.1 bt104.2.2 bt151.1 bt151.2.1 bt151.2.2).bind fun t156 => (some t156))))))))) else (none)))) else (none))) else (none)) else (none)))) else (none)) else (none)) else (none)) else (none)))) else (none)))) else (none)))) = some r := by rw [if_pos rfl] at H; exact H
  clear H
  have H := H1
  clear H1
  replace H := Option.bind_eq_some_iff.mp H
  obtain ⟨⟨t104, t105, t106⟩, A60, H⟩ := H
  try dsimp -simprocs only at H
  have A6 := Aside0.mk A60
  clear A60
  replace H := Option.bind_eq_some_iff.mp H
  obtain ⟨⟨t110, t111, t112⟩, A70, H⟩ := H
  try dsimp -simprocs only at H
  have A7 := Aside0.mk A70
  clear A70
  by_cases c8 : ([] : List (List (S28))).length + t106.length < 5864062014805
  rotate_left
  · rw [if_neg c8] at H
    exact absurd H (by simp)
  rw [if_pos c8] at H
  have LMc8 := Aside0.mk c8
  clear c8
  obtain ⟨y118, hy118⟩ : ∃ y_ : List (List (S28)), y_ = (([] : List (List (S28))) ++ t106) := ⟨_, rfl⟩
  replace H : ((partitalaw16_End.f 0).bind fun bt121 => (if y118.length < 5864062014805 then (if (t106.length : Int) = 0 then (none) else ((some (([] : List (List (S28))) ++ t106 : List (List (S28)))).bind fun y134 => (if 0 ≤ (Int.tmod (wrap64 (a2)) (t106.length : Int)) then (if (Int.tmod (wrap64 (a2)) (t106.length : Int)) < (t106.length : Int) then (if ([] : List (S28)).length + (rd_L3 t106 (Int.tmod (wrap64 (a2)) (t106.length : Int))).length < 2513169434916 then (if (Int.tmod (wrap64 (a2)) (t106.length : Int)) < (y134.length : Int) then ((some (y134.set ((Int.tmod (wrap64 (a2)) (t106.length : Int)) : Int).toNat (([] : List (S28)) ++ (rd_L3 t106 (Int.tmod (wrap64 (a2)) (t106.length : Int)))) : List (List (S28)))).bind fun y141 => (if ((rd_L3 t106 (Int.tmod (wrap64 (a2)) (t106.length : Int))).length : Int) = 0 then (none) else (if 0 ≤ (Int.tmod (wrap64 (a2)) ((rd_L3 t106 (Int.tmod (wrap64 (a2)) (t106.length : Int))).length : Int)) then (if (Int.tmod (wrap64 (a2)) ((rd_L3 t106 (Int.tmod (wrap64 (a2)) (t106.length : Int))).length : Int)) < ((rd_L3 y141 (Int.tmod (wrap64 (a2)) (t106.length : Int))).length : Int) then ((smf_Same.f k t104 t105 t106 t104 t105 t106).bind fun t145 => (if t145 = true then ((smf_Same.f k t104 t105 t106 t110 t111 t112).bind fun t146 => ((smf_Same.f k t110 t111 t112 t104 t105 t106).bind fun t147 => (if (t146 == t147) = true then ((smf_Same.f k t104 t105 t106 t104 (wrap64 (1 + (Int.tmod t105 32767))) t106).bind fun t148 => (if t148 = true then (none) else ((smf_Same.f k t104 t105 t106 t104 t105 (y118 ++ [(([(⟨bt121.1, bt121.2.1, bt121.2.2.1, bt121.2.2.2.1, bt121.2.2.2.2.1, bt121.2.2.2.2.2⟩ : S28)] : List (S28)))])).bind fun t149 => (if t149 = true then (none) else ((smf_Same.f k t104 t105 t106 t104 t105 (chg y141 t106 a2)).bind fun t150 => (if t150 = true then (none) else ((partitalaw16_File.f k a0_0 a0_1 l0_2).bind fun bt151 => ((smf_Same.f k t104 t105 t106 bt151.1 bt151.2.1 bt151.2.2).bind fun t156 => (some t156))))))))) else (none)))) else (none))) else (none)) else (none)))) else (none)) else (none)) else (none)) else (none)))) else (none))) = some r := by first | (rw [hy118]; with_reducible exact H) | (have H2_ := (Option.bind_some _ _).symm.trans H; rw [hy118]; with_reducible exact H2_) | (have H2_ := (Option.bind_some _ _).symm.trans H; with_reducible exact H2_) | with_reducible exact H | (rw [hy118]; exact H) | exact H
  have Ny118 := Aside0.mk hy118
  clear hy118
  replace H := Option.bind_eq_some_iff.mp H
  obtain ⟨⟨t121, t122, t123, t124, t125, t126⟩, A90, H⟩ := H
  try dsimp -simprocs only at H
  have A9 := Aside0.mk A90
  clear A90
  obtain ⟨y127, hy127⟩ : ∃ y_ : List (S28), y_ = (([(⟨t121, t122, t123, t124, t125, t126⟩ : S28)] : List (S28))) := ⟨_, rfl⟩
  replace H : (if y118.length < 5864062014805 then (if (t106.length : Int) = 0 then (none) else ((some (([] : List (List (S28))) ++ t106 : List (List (S28)))).bind fun y134 => (if 0 ≤ (Int.tmod (wrap64 (a2)) (t106.length : Int)) then (if (Int.tmod (wrap64 (a2)) (t106.length : Int)) < (t106.length : Int) then (if ([] : List (S28)).length + (rd_L3 t106 (Int.tmod (wrap64 (a2)) (t106.length : Int))).length < 2513169434916 then (if (Int.tmod (wrap64 (a2)) (t106.length : Int)) < (y134.length : Int) then ((some (y134.set ((Int.tmod (wrap64 (a2)) (t106.length : Int)) : Int).toNat (([] : List (S28)) ++ (rd_L3 t106 (Int.tmod (wrap64 (a2)) (t106.length : Int)))) : List (List (S28)))).bind fun y141 => (if ((rd_L3 t106 (Int.tmod (wrap64 (a2)) (t106.length : Int))).length : Int) = 0 then (none) else (if 0 ≤ (Int.tmod (wrap64 (a2)) ((rd_L3 t106 (Int.tmod (wrap64 (a2)) (t106.length : Int))).length : Int)) then (if (Int.tmod (wrap64 (a2)) ((rd_L3 t106 (Int.tmod (wrap64 (a2)) (t106.length : Int))).length : Int)) < ((rd_L3 y141 (Int.tmod (wrap64 (a2)) (t106.length : Int))).length : Int) then ((smf_Same.f k t104 t105 t106 t104 t105 t106).bind fun t145 => (if t145 = true then ((smf_Same.f k t104 t105 t106 t110 t111 t112).bind fun t146 => ((smf_Same.f k t110 t111 t112 t104 t105 t106).bind fun t147 => (if (t146 == t147) = true then ((smf_Same.f k t104 t105 t106 t104 (wrap64 (1 + (Int.tmod t105 32767))) t106).bind fun t148 => (if t148 = true then (none) else ((smf_Same.f k t104 t105 t106 t104 t105 (y118 ++ [y127])).bind fun t149 => (if t149 = true then (none) else ((smf_Same.f k t104 t105 t106 t104 t105 (chg y141 t106 a2)).bind fun t150 => (if t150 = true then (none) else ((partitalaw16_File.f k a0_0 a0_1 l0_2).bind fun bt151 => ((smf_Same.f k t104 t105 t106 bt151.1 bt151.2.1 bt151.2.2).bind fun t156 => (some t156))))))))) else (none)))) else (none))) else (none)) else (none)))) else (none)) else (none)) else (none)) else (none)))) else (none)) = some r := by first | (rw [hy127]; with_reducible exact H) | (have H2_ := (Option.bind_some _ _).symm.trans H; rw [hy127]; with_reducible exact H2_) | (have H2_ := (Option.bind_some _ _).symm.trans H; with_reducible exact H2_) | with_reducible exact H | (rw [hy127]; exact H) | exact H
  have Ny127 := Aside0.mk hy127
  clear hy127
  by_cases c10 : y118.length < 5864062014805
  rotate_left
  · rw [if_neg c10] at H
    exact absurd H (by simp)
  rw [if_pos c10] at H
  have LMc10 := Aside0.mk c10
  clear c10
  obtain ⟨y130, hy130⟩ : ∃ y_ : List (List (S28)), y_ = (y118 ++ [y127]) := ⟨_, rfl⟩
  replace H : (if (t106.length : Int) = 0 then (none) else ((some (([] : List (List (S28))) ++ t106 : List (List (S28)))).bind fun y134 => (if 0 ≤ (Int.tmod (wrap64 (a2)) (t106.length : Int)) then (if (Int.tmod (wrap64 (a2)) (t106.length : Int)) < (t106.length : Int) then (if ([] : List (S28)).length + (rd_L3 t106 (Int.tmod (wrap64 (a2)) (t106.length : Int))).length < 2513169434916 then (if (Int.tmod (wrap64 (a2)) (t106.length : Int)) < (y134.length : Int) then ((some (y134.set ((Int.tmod (wrap64 (a2)) (t106.length : Int)) : Int).toNat (([] : List (S28)) ++ (rd_L3 t106 (Int.tmod (wrap64 (a2)) (t106.length : Int)))) : List (List (S28)))).bind fun y141 => (if ((rd_L3 t106 (Int.tmod (wrap64 (a2)) (t106.length : Int))).length : Int) = 0 then (none) else (if 0 ≤ (Int.tmod (wrap64 (a2)) ((rd_L3 t106 (Int.tmod (wrap64 (a2)) (t106.length : Int))).length : Int)) then (if (Int.tmod (wrap64 (a2)) ((rd_L3 t106 (Int.tmod (wrap64 (a2)) (t106.length : Int))).length : Int)) < ((rd_L3 y141 (Int.tmod (wrap64 (a2)) (t106.length : Int))).length : Int) then ((smf_Same.f k t104 t105 t106 t104 t105 t106).bind fun t145 => (if t145 = true then ((smf_Same.f k t104 t105 t106 t110 t111 t112).bind fun t146 => ((smf_Same.f k t110 t111 t112 t104 t105 t106).bind fun t147 => (if (t146 == t147) = true then ((smf_Same.f k t104 t105 t106 t104 (wrap64 (1 + (Int.tmod t105 32767))) t106).bind fun t148 => (if t148 = true then (none) else ((smf_Same.f k t104 t105 t106 t104 t105 y130).bind fun t149 => (if t149 = true then (none) else ((smf_Same.f k t104 t105 t106 t104 t105 (chg y141 t106 a2)).bind fun t150 => (if t150 = true then (none) else ((partitalaw16_File.f k a0_0 a0_1 l0_2).bind fun bt151 => ((smf_Same.f k t104 t105 t106 bt151.1 bt151.2.1 bt151.2.2).bind fun t156 => (some t156))))))))) else (none)))) else (none))) else (none)) else (none)))) else (none)) else (none)) else (none)) else (none)))) = some r := by first | (rw [hy130]; with_reducible exact H) | (have H2_ := (Option.bind_some _ _).symm.trans H; rw [hy130]; with_reducible exact H2_) | (have H2_ := (Option.bind_some _ _).symm.trans H; with_reducible exact H2_) | with_reducible exact H | (rw [hy130]; exact H) | exact H
  have Ny130 := Aside0.mk hy130
  clear hy130
  by_cases c11 : (t106.length : Int) = 0
  · rw [if_pos c11] at H
    exact absurd H (by simp)
  rw [if_neg c11] at H
  have c11b0 : ((t106.length : Int) == 0) = false := beq_eq_false_iff_ne.mpr c11
  have c11b1 : ((t106.length : Int) != 0) = true := bne_iff_ne.mpr c11
  have c11b2 : ¬ (t106 = []) := fun h_ => c11 (by rw [h_]; rfl)
  obtain ⟨y134, hy134⟩ : ∃ y_ : List (List (S28)), y_ = (([] : List (List (S28))) ++ t106) := ⟨_, rfl⟩
  replace H : (if 0 ≤ (Int.tmod (wrap64 (a2)) (t106.length : Int)) then (if (Int.tmod (wrap64 (a2)) (t106.length : Int)) < (t106.length : Int) then (if ([] : List (S28)).length + (rd_L3 t106 (Int.tmod (wrap64 (a2)) (t106.length : Int))).length < 2513169434916 then (if (Int.tmod (wrap64 (a2)) (t106.length : Int)) < (y134.length : Int) then ((some (y134.set ((Int.tmod (wrap64 (a2)) (t106.length : Int)) : Int).toNat (([] : List (S28)) ++ (rd_L3 t106 (Int.tmod (wrap64 (a2)) (t106.length : Int)))) : List (List (S28)))).bind fun y141 => (if ((rd_L3 t106 (Int.tmod (wrap64 (a2)) (t106.length : Int))).length : Int) = 0 then (none) else (if 0 ≤ (Int.tmod (wrap64 (a2)) ((rd_L3 t106 (Int.tmod (wrap64 (a2)) (t106.length : Int))).length : Int)) then (if (Int.tmod (wrap64 (a2)) ((rd_L3 t106 (Int.tmod (wrap64 (a2)) (t106.length : Int))).length : Int)) < ((rd_L3 y141 (Int.tmod (wrap64 (a2)) (t106.length : Int))).length : Int) then ((smf_Same.f k t104 t105 t106 t104 t105 t106).bind fun t145 => (if t145 = true then ((smf_Same.f k t104 t105 t106 t110 t111 t112).bind fun t146 => ((smf_Same.f k t110 t111 t112 t104 t105 t106).bind fun t147 => (if (t146 == t147) = true then ((smf_Same.f k t104 t105 t106 t104 (wrap64 (1 + (Int.tmod t105 32767))) t106).bind fun t148 => (if t148 = true then (none) else ((smf_Same.f k t104 t105 t106 t104 t105 y130).bind fun t149 => (if t149 = true then (none) else ((smf_Same.f k t104 t105 t106 t104 t105 (chg y141 t106 a2)).bind fun t150 => (if t150 = true then (none) else ((partitalaw16_File.f k a0_0 a0_1 l0_2).bind fun bt151 => ((smf_Same.f k t104 t105 t106 bt151.1 bt151.2.1 bt151.2.2).bind fun t156 => (some t156))))))))) else (none)))) else (none))) else (none)) else (none)))) else (none)) else (none)) else (none)) else (none)) = some r := by first | (rw [hy134]; with_reducible exact H) | (have H2_ := (Option.bind_some _ _).symm.trans H; rw [hy134]; with_reducible exact H2_) | (have H2_ := (Option.bind_some _ _).symm.trans H; with_reducible exact H2_) | with_reducible exact H | (rw [hy134]; exact H) | exact H
  have Ny134 := Aside0.mk hy134
  clear hy134
  obtain ⟨ji12, hji12⟩ : ∃ j_ : Int, (Int.tmod (wrap64 (a2)) (t106.length : Int)) = j_ := ⟨_, rfl⟩
  replace H : (if 0 ≤ (ji12) then (if (ji12) < (t106.length : Int) then (if ([] : List (S28)).length + (rd_L3 t106 (ji12)).length < 2513169434916 then (if (ji12) < (y134.length : Int) then ((some (y134.set ((ji12) : Int).toNat (([] : List (S28)) ++ (rd_L3 t106 (ji12))) : List (List (S28)))).bind fun y141 => (if ((rd_L3 t106 (ji12)).length : Int) = 0 then (none) else (if 0 ≤ (Int.tmod (wrap64 (a2)) ((rd_L3 t106 (ji12)).length : Int)) then (if (Int.tmod (wrap64 (a2)) ((rd_L3 t106 (ji12)).length : Int)) < ((rd_L3 y141 (ji12)).length : Int) then ((smf_Same.f k t104 t105 t106 t104 t105 t106).bind fun t145 => (if t145 = true then ((smf_Same.f k t104 t105 t106 t110 t111 t112).bind fun t146 => ((smf_Same.f k t110 t111 t112 t104 t105 t106).bind fun t147 => (if (t146 == t147) = true then ((smf_Same.f k t104 t105 t106 t104 (wrap64 (1 + (Int.tmod t105 32767))) t106).bind fun t148 => (if t148 = true then (none) else ((smf_Same.f k t104 t105 t106 t104 t105 y130).bind fun t149 => (if t149 = true then (none) else ((smf_Same.f k t104 t105 t106 t104 t105 (chg y141 t106 a2)).bind fun t150 => (if t150 = true then (none) else ((partitalaw16_File.f k a0_0 a0_1 l0_2).bind fun bt151 => ((smf_Same.f k t104 t105 t106 bt151.1 bt151.2.1 bt151.2.2).bind fun t156 => (some t156))))))))) else (none)))) else (none))) else (none)) else (none)))) else (none)) else (none)) else (none)) else (none)) = some r := by first | (rw [hji12] at H; exact H) | (simp only [hji12] at H ⊢; exact H)
  (try rw [hji12] at A4)
  (try rw [hji12] at A6)
  (try rw [hji12] at A7)
  (try rw [hji12] at A9)
  by_cases c13 : 0 ≤ (ji12)
  rotate_left
  · rw [if_neg c13] at H
    exact absurd H (by simp)
  rw [if_pos c13] at H
  have c13b0 : decide (0 ≤ (ji12)) = true := decide_eq_true c13
  clear c13
  by_cases c14 : (ji12) < (t106.length : Int)
  rotate_left
  · rw [if_neg c14] at H
    exact absurd H (by simp)
  rw [if_pos c14] at H
  have c14b0 : decide ((ji12) < (t106.length : Int)) = true := decide_eq_true c14
  clear c14
  by_cases c15 : ([] : List (S28)).length + (rd_L3 t106 (ji12)).length < 2513169434916
  rotate_left
  · rw [if_neg c15] at H
    exact absurd H (by simp)
  rw [if_pos c15] at H
  have LMc15 := Aside0.mk c15
  clear c15
  obtain ⟨y138, hy138⟩ : ∃ y_ : List (S28), y_ = (([] : List (S28)) ++ (rd_L3 t106 (ji12))) := ⟨_, rfl⟩
  replace H : (if (ji12) < (y134.length : Int) then ((some (y134.set ((ji12) : Int).toNat y138 : List (List (S28)))).bind fun y141 => (if ((rd_L3 t106 (ji12)).length : Int) = 0 then (none) else (if 0 ≤ (Int.tmod (wrap64 (a2)) ((rd_L3 t106 (ji12)).length : Int)) then (if (Int.tmod (wrap64 (a2)) ((rd_L3 t106 (ji12)).length : Int)) < ((rd_L3 y141 (ji12)).length : Int) then ((smf_Same.f k t104 t105 t106 t104 t105 t106).bind fun t145 => (if t145 = true then ((smf_Same.f k t104 t105 t106 t110 t111 t112).bind fun t146 => ((smf_Same.f k t110 t111 t112 t104 t105 t106).bind fun t147 => (if (t146 == t147) = true then ((smf_Same.f k t104 t105 t106 t104 (wrap64 (1 + (Int.tmod t105 32767))) t106).bind fun t148 => (if t148 = true then (none) else ((smf_Same.f k t104 t105 t106 t104 t105 y130).bind fun t149 => (if t149 = true then (none) else ((smf_Same.f k t104 t105 t106 t104 t105 (chg y141 t106 a2)).bind fun t150 => (if t150 = true then (none) else ((partitalaw16_File.f k a0_0 a0_1 l0_2).bind fun bt151 => ((smf_Same.f k t104 t105 t106 bt151.1 bt151.2.1 bt151.2.2).bind fun t156 => (some t156))))))))) else (none)))) else (none))) else (none)) else (none)))) else (none)) = some r := by first | (rw [hy138]; with_reducible exact H) | (have H2_ := (Option.bind_some _ _).symm.trans H; rw [hy138]; with_reducible exact H2_) | (have H2_ := (Option.bind_some _ _).symm.trans H; with_reducible exact H2_) | with_reducible exact H | (rw [hy138]; exact H) | exact H
  have Ny138 := Aside0.mk hy138
  clear hy138
  by_cases c16 : (ji12) < (y134.length : Int)
  rotate_left
  · rw [if_neg c16] at H
    exact absurd H (by simp)
  rw [if_pos c16] at H
  have c16b0 : decide ((ji12) < (y134.length : Int)) = true := decide_eq_true c16
  clear c16
  obtain ⟨y141, hy141⟩ : ∃ y_ : List (List (S28)), y_ = (y134.set ((ji12) : Int).toNat y138) := ⟨_, rfl⟩
  replace H : (if ((rd_L3 t106 (ji12)).length : Int) = 0 then (none) else (if 0 ≤ (Int.tmod (wrap64 (a2)) ((rd_L3 t106 (ji12)).length : Int)) then (if (Int.tmod (wrap64 (a2)) ((rd_L3 t106 (ji12)).length : Int)) < ((rd_L3 y141 (ji12)).length : Int) then ((smf_Same.f k t104 t105 t106 t104 t105 t106).bind fun t145 => (if t145 = true then ((smf_Same.f k t104 t105 t106 t110 t111 t112).bind fun t146 => ((smf_Same.f k t110 t111 t112 t104 t105 t106).bind fun t147 => (if (t146 == t147) = true then ((smf_Same.f k t104 t105 t106 t104 (wrap64 (1 + (Int.tmod t105 32767))) t106).bind fun t148 => (if t148 = true then (none) else ((smf_Same.f k t104 t105 t106 t104 t105 y130).bind fun t149 => (if t149 = true then (none) else ((smf_Same.f k t104 t105 t106 t104 t105 (chg y141 t106 a2)).bind fun t150 => (if t150 = true then (none) else ((partitalaw16_File.f k a0_0 a0_1 l0_2).bind fun bt151 => ((smf_Same.f k t104 t105 t106 bt151.1 bt151.2.1 bt151.2.2).bind fun t156 => (some t156))))))))) else (none)))) else (none))) else (none)) else (none))) = some r := by first | (rw [hy141]; with_reducible exact H) | (have H2_ := (Option.bind_some _ _).symm.trans H; rw [hy141]; with_reducible exact H2_) | (have H2_ := (Option.bind_some _ _).symm.trans H; with_reducible exact H2_) | with_reducible exact H | (rw [hy141]; exact H) | exact H
  have Ny141 := Aside0.mk hy141
  clear hy141
  by_cases c18 : ((rd_L3 t106 (ji12)).length : Int) = 0
  · rw [if_pos c18] at H
    exact absurd H (by simp)
  rw [if_neg c18] at H
  have c18b0 : (((rd_L3 t106 (ji12)).length : Int) == 0) = false := beq_eq_false_iff_ne.mpr c18
  have c18b1 : (((rd_L3 t106 (ji12)).length : Int) != 0) = true := bne_iff_ne.mpr c18
  have c18b2 : ¬ ((rd_L3 t106 (ji12)) = []) := fun h_ => c18 (by rw [h_]; rfl)
  obtain ⟨ji19, hji19⟩ : ∃ j_ : Int, (Int.tmod (wrap64 (a2)) ((rd_L3 t106 (ji12)).length : Int)) = j_ := ⟨_, rfl⟩
  replace H : (if 0 ≤ (ji19) then (if (ji19) < ((rd_L3 y141 (ji12)).length : Int) then ((smf_Same.f k t104 t105 t106 t104 t105 t106).bind fun t145 => (if t145 = true then ((smf_Same.f k t104 t105 t106 t110 t111 t112).bind fun t146 => ((smf_Same.f k t110 t111 t112 t104 t105 t106).bind fun t147 => (if (t146 == t147) = true then ((smf_Same.f k t104 t105 t106 t104 (wrap64 (1 + (Int.tmod t105 32767))) t106).bind fun t148 => (if t148 = true then (none) else ((smf_Same.f k t104 t105 t106 t104 t105 y130).bind fun t149 => (if t149 = true then (none) else ((smf_Same.f k t104 t105 t106 t104 t105 (chg y141 t106 a2)).bind fun t150 => (if t150 = true then (none) else ((partitalaw16_File.f k a0_0 a0_1 l0_2).bind fun bt151 => ((smf_Same.f k t104 t105 t106 bt151.1 bt151.2.1 bt151.2.2).bind fun t156 => (some t156))))))))) else (none)))) else (none))) else (none)) else (none)) = some r := by first | (rw [hji19] at H; exact H) | (simp only [hji19] at H ⊢; exact H)
  (try rw [hji19] at A4)
  (try rw [hji19] at A6)
  (try rw [hji19] at A7)
  (try rw [hji19] at A9)
  obtain ⟨y149, hy149⟩ : ∃ y_ : List (List (S28)), y_ = chg y141 t106 a2 := ⟨_, rfl⟩
  rw [← hy149] at H
  have Ny149 := Aside0.mk hy149
  clear hy149
  by_cases c20 : 0 ≤ (ji19)
  rotate_left
  · rw [if_neg c20] at H
    exact absurd H (by simp)
  rw [if_pos c20] at H
  have c20b0 : decide (0 ≤ (ji19)) = true := decide_eq_true c20
  clear c20
  by_cases c21 : (ji19) < ((rd_L3 y141 (ji12)).length : Int)
  rotate_left
  · rw [if_neg c21] at H
    exact absurd H (by simp)
  rw [if_pos c21] at H
  have c21b0 : decide ((ji19) < ((rd_L3 y141 (ji12)).length : Int)) = true := decide_eq_true c21
  clear c21
  replace H := Option.bind_eq_some_iff.mp H
  obtain ⟨t145, A220, H⟩ := H
  try dsimp -simprocs only at H
  have A22 := Aside0.mk A220
  clear A220
  by_cases c23 : t145 = true
  rotate_left
  · replace c23 := Bool.eq_false_iff.mpr c23
    subst c23
    have H1 : (none) = some r := by rw [if_neg (show ¬ (false = true) by decide)] at H; exact H
    clear H
    have H := H1
    clear H1
    exact absurd H (by simp)
  subst c23
  have H1 : ((smf_Same.f k t104 t105 t106 t110 t111 t112).bind fun t146 => ((smf_Same.f k t110 t111 t112 t104 t105 t106).bind fun t147 => (if (t146 == t147) = true then ((smf_Same.f k t104 t105 t106 t104 (wrap64 (1 + (Int.tmod t105 32767))) t106).bind fun t148 => (if t148 = true then (none) else ((smf_Same.f k t104 t105 t106 t104 t105 y130).bind fun t149 => (if t149 = true then (none) else ((smf_Same.f k t104 t105 t106 t104 t105 y149).bind fun t150 => (if t150 = true then (none) else ((partitalaw16_File.f k a0_0 a0_1 l0_2).bind fun bt151 => ((smf_Same.f k t104 t105 t106 bt151.1 bt151.2.1 bt151.2.2).bind fun t156 => (some t156))))))))) else (none)))) = some r := by rw [if_pos rfl] at H; exact H
  clear H
  have H := H1
  clear H1
  replace H := Option.bind_eq_some_iff.mp H
  obtain ⟨t146, A240, H⟩ := H
  try dsimp -simprocs only at H
  have A24 := Aside0.mk A240
  clear A240
  replace H := Option.bind_eq_some_iff.mp H
  obtain ⟨t147, A250, H⟩ := H
  try dsimp -simprocs only at H
  have A25 := Aside0.mk A250
  clear A250
  by_cases c26 : (t146 == t147) = true
  rotate_left
  · rw [if_neg c26] at H
    exact absurd H (by simp)
  rw [if_pos c26] at H
  have c26b0 : (t146 == t147) = true := c26
  (try (have c26b1 : decide (t146 = t147) = true := by simpa using c26))
  (try (have c26b2 : (t146 == t147) = true := by simpa using c26))
  clear c26
  replace H := Option.bind_eq_some_iff.mp H
  obtain ⟨t148, A270, H⟩ := H
  try dsimp -simprocs only at H
  have A27 := Aside0.mk A270
  clear A270
  by_cases c28 : t148 = true
  · subst c28
    have H1 : (none) = some r := by rw [if_pos rfl] at H; exact H
    clear H
    have H := H1
    clear H1
    exact absurd H (by simp)
  replace c28 := Bool.eq_false_iff.mpr c28
  subst c28
  have H1 : ((smf_Same.f k t104 t105 t106 t104 t105 y130).bind fun t149 => (if t149 = true then (none) else ((smf_Same.f k t104 t105 t106 t104 t105 y149).bind fun t150 => (if t150 = true then (none) else ((partitalaw16_File.f k a0_0 a0_1 l0_2).bind fun bt151 => ((smf_Same.f k t104 t105 t106 bt151.1 bt151.2.1 bt151.2.2).bind fun t156 => (some t156))))))) = some r := by rw [if_neg (show ¬ (false = true) by decide)] at H; exact H
  clear H
  have H := H1
  clear H1
  replace H := Option.bind_eq_some_iff.mp H
  obtain ⟨t149, A290, H⟩ := H
  try dsimp -simprocs only at H
  have A29 := Aside0.mk A290
  clear A290
  by_cases c30 : t149 = true
  · subst c30
    have H1 : (none) = some r := by rw [if_pos rfl] at H; exact H
    clear H
    have H := H1
    clear H1
    exact absurd H (by simp)
  replace c30 := Bool.eq_false_iff.mpr c30
  subst c30
  have H1 : ((smf_Same.f k t104 t105 t106 t104 t105 y149).bind fun t150 => (if t150 = true then (none) else ((partitalaw16_File.f k a0_0 a0_1 l0_2).bind fun bt151 => ((smf_Same.f k t104 t105 t106 bt151.1 bt151.2.1 bt151.2.2).bind fun t156 => (some t156))))) = some r := by rw [if_neg (show ¬ (false = true) by decide)] at H; exact H
  clear H
  have H := H1
  clear H1
  replace H := Option.bind_eq_some_iff.mp H
  obtain ⟨t150, A310, H⟩ := H
  try dsimp -simprocs only at H
  have A31 := Aside0.mk A310
  clear A310
  by_cases c32 : t150 = true
  · subst c32
    have H1 : (none) = some r := by rw [if_pos rfl] at H; exact H
    clear H
    have H := H1
    clear H1
    exact absurd H (by simp)
  replace c32 := Bool.eq_false_iff.mpr c32
  subst c32
  have H1 : ((partitalaw16_File.f k a0_0 a0_1 l0_2).bind fun bt151 => ((smf_Same.f k t104 t105 t106 bt151.1 bt151.2.1 bt151.2.2).bind fun t156 => (some t156))) = some r := by rw [if_neg (show ¬ (false = true) by decide)] at H; exact H
  clear H
  have H := H1
  clear H1
  replace H := Option.bind_eq_some_iff.mp H
  obtain ⟨⟨t151, t152, t153⟩, A330, H⟩ := H
  try dsimp -simprocs only at H
  have A33 := Aside0.mk A330
  clear A330
  replace H := Option.bind_eq_some_iff.mp H
  obtain ⟨t156, A340, H⟩ := H
  try dsimp -simprocs only at H
  have A34 := Aside0.mk A340
  clear A340
  obtain rfl := Option.some.inj H
  go_enter Try.func3, Try.ntmps3
  try go_wp2_with (first | ((with_reducible refine gate_dst (N := 3) rfl ?_); refine box_event ?hg (N := 3) ?hd (cs := #[.int .i64 a0_0, .int .i64 a0_1, .slice A0_2 l0_2.length c0_2]) (t := 24) ?hr ?_; (case hd => rfl); (case hg => rfl); (case hr => exact qq6); intro gb101 hg w35 hbox hb; have BK101 := Aside0.mk (hbox); have GW101 := Aside0.mk ((qq9 : w.heap.size ≤ gb101)); have GE101 := Aside0.mk ((qq9 : w.heap.size ≤ gb101)); replace HB := Aside0.mk (below_step (qB HB.out) hb); clear hb hbox hg) | ((with_reducible refine gate_dst (N := 4) rfl ?_); refine box_event ?hg (N := 4) ?hd (cs := #[.int .i64 a1_0, .int .i64 a1_1, .slice A1_2 l1_2.length c1_2]) (t := 24) ?hr ?_; (case hd => rfl); (case hg => rfl); (case hr => exact qq6); intro gb102 hg w36 hbox hb; have BK102 := Aside0.mk (hbox); have GW102 := Aside0.mk ((qqh : w.heap.size ≤ gb102)); have GE102 := Aside0.mk ((qqh : w.heap.size ≤ gb102)); replace HB := Aside0.mk (below_step (qS1 GE101 HB.out) hb); have NB101_102 := Aside0.mk ((qqb : gb101 ≠ gb102)); have NB102_101 := Aside0.mk ((qqc : gb102 ≠ gb101)); replace BK101 := Aside0.mk (blk_below (bq BK101.out) hb); clear hb hbox hg) | ((with_reducible refine gate_callee (f := 11) rfl ?_); refine goesL_ (some 14) rfl rfl Try.func11 (by kernel_rfl) rfl #[] rfl qq0 ?_; (with_reducible refine (partitalaw16_examples.calls k  true _ A4.out).mono ?_); rintro e w37 ⟨rfl, hb⟩; refine ⟨_, rfl, ?_⟩; replace BK101 := Aside0.mk (blk_below (bq BK101.out) hb); replace BK102 := Aside0.mk (blk_below (bq BK102.out) hb); replace HB := Aside0.mk (below_step (qS2 GE101 GE102 HB.out) hb); (try clear hb); (try clear hb2); (try clear hk); (try clear hi); have hnb38 := NB101_102.out; have hnc38 := NB102_101.out; obtain ⟨hcz39_0, hcz39_1, hcz39_2, hfz39_0, hfz39_1, hfz39_2⟩ := blk3 BK101.out) | ((with_reducible refine gate_callee (f := 12) rfl ?_); refine goesL_ (some 18) rfl rfl Try.func12 (by kernel_rfl) rfl #[.agg #[.int .i64 a0_0, .int .i64 a0_1, .slice A0_2 l0_2.length c0_2]] rfl qq0 ?_; (with_reducible refine (partitalaw16_File.calls k a0_0 a0_1 _ _ l0_2 t104 t105 t106 _ ?side1 ?side2 A6.out).mono ?_); (case side1 => repeat (first | exact (Kd.C_below HR0_2.out HB.out) | (with_reducible refine Kd.C_alloc ?_ _) | (with_reducible refine Kd.C_drewN ?_ _) | (with_reducible refine Kd.C_drew ?_))); (case side2 => exact HC0_2.out); rintro e w40 ⟨v107, rfl, ho0, hb⟩; refine ⟨_, rfl, ?_⟩; have HO108 := Aside0.mk (Kd.N_lower (Kd.N_mono (ok' := fun k_ => k_ ≠ gb101 ∧ k_ ≠ gb102) ho0 (fun k_ hk_ => ⟨(Kd.freshB (bq BK101.out) k_ hk_), (Kd.freshB (bq BK102.out) k_ hk_)⟩)) (below_size (qS2 GE101 GE102 HB.out))); replace BK101 := Aside0.mk (blk_below (bq BK101.out) hb); replace BK102 := Aside0.mk (blk_below (bq BK102.out) hb); replace HB := Aside0.mk (below_step (qS2 GE101 GE102 HB.out) hb); (try clear hb); (try clear hb2); (try clear hk); (try clear hi); (try clear ho0)) | ((with_reducible refine gate_dst (N := 8) rfl ?_); refine box_event ?hg (N := 8) ?hd (cs := #[.int .i64 0, .int .i64 0, .slice none 0 0]) (t := 24) ?hr ?_; (case hd => rfl); (case hg => rfl); (case hr => exact qq6); intro gb109 hg w41 hbox hb; replace HO108 := Aside0.mk (Kd.N_below (Kd.N_elderB (qN HO108.out) gb109 (Nat.le_of_eq hg.symm)) hb); have BK109 := Aside0.mk (hbox); have GW109 := Aside0.mk ((qqe : w.heap.size ≤ gb109)); have GE109 := Aside0.mk ((qqe : w.heap.size ≤ gb109)); replace HB := Aside0.mk (below_step (qS2 GE101 GE102 HB.out) hb); have NB101_109 := Aside0.mk ((qqb : gb101 ≠ gb109)); have NB109_101 := Aside0.mk ((qqc : gb109 ≠ gb101)); replace BK101 := Aside0.mk (blk_below (bq BK101.out) hb); have NB102_109 := Aside0.mk ((qqk : gb102 ≠ gb109)); have NB109_102 := Aside0.mk ((qql : gb109 ≠ gb102)); replace BK102 := Aside0.mk (blk_below (bq BK102.out) hb); clear hb hbox hg; have hnb42 := NB109_101.out; have hnc42 := NB101_109.out; have hnb43 := NB109_102.out; have hnc43 := NB102_109.out; obtain ⟨hcz44_0, hcz44_1, hcz44_2, hfz44_0, hfz44_1, hfz44_2⟩ := blk3 BK109.out; obtain ⟨Ao45, co45, eo45⟩ := Kd.N_slice HO108.out; subst eo45; obtain ⟨hcz46_0, hcz46_1, hcz46_2, hfz46_0, hfz46_1, hfz46_2⟩ := blk3 BK102.out) | ((with_reducible refine gate_callee (f := 12) rfl ?_); refine goesL_ (some 20) rfl rfl Try.func12 (by kernel_rfl) rfl #[.agg #[.int .i64 a1_0, .int .i64 a1_1, .slice A1_2 l1_2.length c1_2]] rfl qq0 ?_; (with_reducible refine (partitalaw16_File.calls k a1_0 a1_1 _ _ l1_2 t110 t111 t112 _ ?side1 ?side2 A7.out).mono ?_); (case side1 => exact Kd.C_below HR1_2.out (qS3 GE101 GE102 GE109 HB.out)); (case side2 => exact HC1_2.out); rintro e w47 ⟨v113, rfl, ho0, hb⟩; refine ⟨_, rfl, ?_⟩; have HO114 := Aside0.mk (Kd.N_lower (Kd.N_mono (ok' := fun k_ => some k_ ≠ (.slice Ao45 t106.length co45 : Value).ownBlock ∧ k_ ≠ gb101 ∧ k_ ≠ gb102 ∧ k_ ≠ gb109) ho0 (fun k_ hk_ => ⟨(Kd.fresh' (Kd.N_lt qqV) k_ hk_), (Kd.freshB (g := gb101) (o := .cells #[.int .i64 a0_0, .int .i64 a0_1, .slice A0_2 l0_2.length c0_2] 24 (0, 0)) (by refine bq ?_; refine blk_far ?_ NB101_109.out _; refine bq ?_; refine blk_far ?_ NB101_109.out _; refine bq ?_; refine blk_far ?_ NB101_109.out _; exact bq BK101.out) k_ hk_), (Kd.freshB (g := gb102) (o := .cells #[.int .i64 a1_0, .int .i64 a1_1, .slice A1_2 l1_2.length c1_2] 24 (0, 0)) (by refine bq ?_; refine blk_far ?_ NB102_109.out _; refine bq ?_; refine blk_far ?_ NB102_109.out _; refine bq ?_; refine blk_far ?_ NB102_109.out _; exact bq BK102.out) k_ hk_), (Kd.freshB (g := gb109) (o := .cells #[.int .i64 t104, .int .i64 t105, .slice Ao45 t106.length co45] 24 (0, 0)) (by refine bq ?_; refine blk_put (cs := #[.int .i64 t104, .int .i64 t105, .slice none 0 0]) ?_ 2 _ rfl; refine bq ?_; refine blk_put (cs := #[.int .i64 t104, .int .i64 0, .slice none 0 0]) ?_ 1 _ rfl; refine bq ?_; refine blk_put (cs := #[.int .i64 0, .int .i64 0, .slice none 0 0]) ?_ 0 _ rfl; exact bq BK109.out) k_ hk_)⟩)) (below_size (qS3 GE101 GE102 GE109 HB.out))); replace HO108 := Aside0.mk (Kd.N_elder' qqV qqd hb); replace BK101 := Aside0.mk (blk_below (g := gb101) (o := .cells #[.int .i64 a0_0, .int .i64 a0_1, .slice A0_2 l0_2.length c0_2] 24 (0, 0)) (by refine bq ?_; refine blk_far ?_ NB101_109.out _; refine bq ?_; refine blk_far ?_ NB101_109.out _; refine bq ?_; refine blk_far ?_ NB101_109.out _; exact bq BK101.out) hb); replace BK102 := Aside0.mk (blk_below (g := gb102) (o := .cells #[.int .i64 a1_0, .int .i64 a1_1, .slice A1_2 l1_2.length c1_2] 24 (0, 0)) (by refine bq ?_; refine blk_far ?_ NB102_109.out _; refine bq ?_; refine blk_far ?_ NB102_109.out _; refine bq ?_; refine blk_far ?_ NB102_109.out _; exact bq BK102.out) hb); replace BK109 := Aside0.mk (blk_below (g := gb109) (o := .cells #[.int .i64 t104, .int .i64 t105, .slice Ao45 t106.length co45] 24 (0, 0)) (by refine bq ?_; refine blk_put (cs := #[.int .i64 t104, .int .i64 t105, .slice none 0 0]) ?_ 2 _ rfl; refine bq ?_; refine blk_put (cs := #[.int .i64 t104, .int .i64 0, .slice none 0 0]) ?_ 1 _ rfl; refine bq ?_; refine blk_put (cs := #[.int .i64 0, .int .i64 0, .slice none 0 0]) ?_ 0 _ rfl; exact bq BK109.out) hb); replace HB := Aside0.mk (below_step (qS3 GE101 GE102 GE109 HB.out) hb); (try clear hb); (try clear hb2); (try clear hk); (try clear hi); (try clear ho0)) | ((with_reducible refine gate_dst (N := 9) rfl ?_); refine box_event ?hg (N := 9) ?hd (cs := #[.int .i64 0, .int .i64 0, .slice none 0 0]) (t := 24) ?hr ?_; (case hd => rfl); (case hg => rfl); (case hr => exact qq6); intro gb115 hg w48 hbox hb; replace HO108 := Aside0.mk (Kd.N_below (Kd.N_elderB (qN HO108.out) gb115 (Nat.le_of_eq hg.symm)) hb); replace HO114 := Aside0.mk (Kd.N_below (Kd.N_elderB (qN HO114.out) gb115 (Nat.le_of_eq hg.symm)) hb); have BK115 := Aside0.mk (hbox); have GW115 := Aside0.mk ((qq17 : w.heap.size ≤ gb115)); have GE115 := Aside0.mk ((qq17 : w.heap.size ≤ gb115)); replace HB := Aside0.mk (below_step (qS3 GE101 GE102 GE109 HB.out) hb); have NB101_115 := Aside0.mk ((qqb : gb101 ≠ gb115)); have NB115_101 := Aside0.mk ((qqc : gb115 ≠ gb101)); replace BK101 := Aside0.mk (blk_below (bq BK101.out) hb); have NB102_115 := Aside0.mk ((qqk : gb102 ≠ gb115)); have NB115_102 := Aside0.mk ((qql : gb115 ≠ gb102)); replace BK102 := Aside0.mk (blk_below (bq BK102.out) hb); have NB109_115 := Aside0.mk ((qq1p : gb109 ≠ gb115)); have NB115_109 := Aside0.mk ((qq1r : gb115 ≠ gb109)); replace BK109 := Aside0.mk (blk_below (bq BK109.out) hb); clear hb hbox hg; have hnb49 := NB115_101.out; have hnc49 := NB101_115.out; have hnb50 := NB115_102.out; have hnc50 := NB102_115.out; have hnb51 := NB115_109.out; have hnc51 := NB109_115.out; obtain ⟨hcz52_0, hcz52_1, hcz52_2, hfz52_0, hfz52_1, hfz52_2⟩ := blk3 BK115.out; obtain ⟨Ao53, co53, eo53⟩ := Kd.N_slice HO114.out; subst eo53; obtain ⟨hcz54_0, hcz54_1, hcz54_2, hfz54_0, hfz54_1, hfz54_2⟩ := blk3 BK109.out) | ((with_reducible refine gate_dst (N := 10) rfl ?_); refine box_event ?hg (N := 10) ?hd (cs := #[.int .i64 0, .int .i64 0, .slice none 0 0]) (t := 24) ?hr ?_; (case hd => rfl); (case hg => rfl); (case hr => exact qq6); intro gb116 hg w55 hbox hb; replace HO108 := Aside0.mk (Kd.N_below (Kd.N_elderB (by (with_reducible repeat (first | apply Kd.N_alloc | apply Kd.N_drewN | apply Kd.N_drew)); exact (Kd.N_mono (Kd.N_far (p := ⟨gb115, 2, none⟩) (Kd.N_far (p := ⟨gb115, 1, none⟩) (Kd.N_far (p := ⟨gb115, 0, none⟩) (Kd.N_mono HO108.out (fun k_ hk => (⟨hk, hk.2⟩ : _ ∧ k_ ≠ gb115))) (fun _ hk => hk.2) (.int .i64 t110)) (fun _ hk => hk.2) (.int .i64 t111)) (fun _ hk => hk.2) (.slice Ao53 t112.length co53)) (fun _ h_ => h_.1))) gb116 (Nat.le_of_eq hg.symm)) hb); replace HO114 := Aside0.mk (Kd.N_below (Kd.N_elderB (by (with_reducible repeat (first | apply Kd.N_alloc | apply Kd.N_drewN | apply Kd.N_drew)); exact (Kd.N_mono (Kd.N_far (p := ⟨gb115, 2, none⟩) (Kd.N_far (p := ⟨gb115, 1, none⟩) (Kd.N_far (p := ⟨gb115, 0, none⟩) (Kd.N_mono HO114.out (fun k_ hk => (⟨hk, hk.2⟩ : _ ∧ k_ ≠ gb115))) (fun _ hk => hk.2) (.int .i64 t110)) (fun _ hk => hk.2) (.int .i64 t111)) (fun _ hk => hk.2) (.slice Ao53 t112.length co53)) (fun _ h_ => h_.1))) gb116 (Nat.le_of_eq hg.symm)) hb); have BK116 := Aside0.mk (hbox); have GW116 := Aside0.mk ((by rw [hg]; exact (below_size (qS4 GE101 GE102 GE109 GE115 HB.out)) : w.heap.size ≤ gb116)); have GE116 := Aside0.mk ((by rw [hg]; exact (below_size (qS4 GE101 GE102 GE109 GE115 HB.out)) : w.heap.size ≤ gb116)); replace HB := Aside0.mk (below_step (qS4 GE101 GE102 GE109 GE115 HB.out) hb); have NB101_116 := Aside0.mk ((by rw [hg]; exact Nat.ne_of_lt (blk_lt (g := gb101) (o := .cells #[.int .i64 a0_0, .int .i64 a0_1, .slice A0_2 l0_2.length c0_2] 24 (0, 0)) (by refine bq ?_; refine blk_far ?_ NB101_115.out _; refine bq ?_; refine blk_far ?_ NB101_115.out _; refine bq ?_; refine blk_far ?_ NB101_115.out _; exact bq BK101.out)) : gb101 ≠ gb116)); have NB116_101 := Aside0.mk ((by rw [hg]; exact Nat.ne_of_gt (blk_lt (g := gb101) (o := .cells #[.int .i64 a0_0, .int .i64 a0_1, .slice A0_2 l0_2.length c0_2] 24 (0, 0)) (by refine bq ?_; refine blk_far ?_ NB101_115.out _; refine bq ?_; refine blk_far ?_ NB101_115.out _; refine bq ?_; refine blk_far ?_ NB101_115.out _; exact bq BK101.out)) : gb116 ≠ gb101)); replace BK101 := Aside0.mk (blk_below (g := gb101) (o := .cells #[.int .i64 a0_0, .int .i64 a0_1, .slice A0_2 l0_2.length c0_2] 24 (0, 0)) (by refine bq ?_; refine blk_far ?_ NB101_115.out _; refine bq ?_; refine blk_far ?_ NB101_115.out _; refine bq ?_; refine blk_far ?_ NB101_115.out _; exact bq BK101.out) hb); have NB102_116 := Aside0.mk ((by rw [hg]; exact Nat.ne_of_lt (blk_lt (g := gb102) (o := .cells #[.int .i64 a1_0, .int .i64 a1_1, .slice A1_2 l1_2.length c1_2] 24 (0, 0)) (by refine bq ?_; refine blk_far ?_ NB102_115.out _; refine bq ?_; refine blk_far ?_ NB102_115.out _; refine bq ?_; refine blk_far ?_ NB102_115.out _; exact bq BK102.out)) : gb102 ≠ gb116)); have NB116_102 := Aside0.mk ((by rw [hg]; exact Nat.ne_of_gt (blk_lt (g := gb102) (o := .cells #[.int .i64 a1_0, .int .i64 a1_1, .slice A1_2 l1_2.length c1_2] 24 (0, 0)) (by refine bq ?_; refine blk_far ?_ NB102_115.out _; refine bq ?_; refine blk_far ?_ NB102_115.out _; refine bq ?_; refine blk_far ?_ NB102_115.out _; exact bq BK102.out)) : gb116 ≠ gb102)); replace BK102 := Aside0.mk (blk_below (g := gb102) (o := .cells #[.int .i64 a1_0, .int .i64 a1_1, .slice A1_2 l1_2.length c1_2] 24 (0, 0)) (by refine bq ?_; refine blk_far ?_ NB102_115.out _; refine bq ?_; refine blk_far ?_ NB102_115.out _; refine bq ?_; refine blk_far ?_ NB102_115.out _; exact bq BK102.out) hb); have NB109_116 := Aside0.mk ((by rw [hg]; exact Nat.ne_of_lt (blk_lt (g := gb109) (o := .cells #[.int .i64 t104, .int .i64 t105, .slice Ao45 t106.length co45] 24 (0, 0)) (by refine bq ?_; refine blk_far ?_ NB109_115.out _; refine bq ?_; refine blk_far ?_ NB109_115.out _; refine bq ?_; refine blk_far ?_ NB109_115.out _; exact bq BK109.out)) : gb109 ≠ gb116)); have NB116_109 := Aside0.mk ((by rw [hg]; exact Nat.ne_of_gt (blk_lt (g := gb109) (o := .cells #[.int .i64 t104, .int .i64 t105, .slice Ao45 t106.length co45] 24 (0, 0)) (by refine bq ?_; refine blk_far ?_ NB109_115.out _; refine bq ?_; refine blk_far ?_ NB109_115.out _; refine bq ?_; refine blk_far ?_ NB109_115.out _; exact bq BK109.out)) : gb116 ≠ gb109)); replace BK109 := Aside0.mk (blk_below (g := gb109) (o := .cells #[.int .i64 t104, .int .i64 t105, .slice Ao45 t106.length co45] 24 (0, 0)) (by refine bq ?_; refine blk_far ?_ NB109_115.out _; refine bq ?_; refine blk_far ?_ NB109_115.out _; refine bq ?_; refine blk_far ?_ NB109_115.out _; exact bq BK109.out) hb); have NB115_116 := Aside0.mk ((by rw [hg]; exact Nat.ne_of_lt (blk_lt (g := gb115) (o := .cells #[.int .i64 t110, .int .i64 t111, .slice Ao53 t112.length co53] 24 (0, 0)) (by refine bq ?_; refine blk_put (cs := #[.int .i64 t110, .int .i64 t111, .slice none 0 0]) ?_ 2 _ rfl; refine bq ?_; refine blk_put (cs := #[.int .i64 t110, .int .i64 0, .slice none 0 0]) ?_ 1 _ rfl; refine bq ?_; refine blk_put (cs := #[.int .i64 0, .int .i64 0, .slice none 0 0]) ?_ 0 _ rfl; exact bq BK115.out)) : gb115 ≠ gb116)); have NB116_115 := Aside0.mk ((by rw [hg]; exact Nat.ne_of_gt (blk_lt (g := gb115) (o := .cells #[.int .i64 t110, .int .i64 t111, .slice Ao53 t112.length co53] 24 (0, 0)) (by refine bq ?_; refine blk_put (cs := #[.int .i64 t110, .int .i64 t111, .slice none 0 0]) ?_ 2 _ rfl; refine bq ?_; refine blk_put (cs := #[.int .i64 t110, .int .i64 0, .slice none 0 0]) ?_ 1 _ rfl; refine bq ?_; refine blk_put (cs := #[.int .i64 0, .int .i64 0, .slice none 0 0]) ?_ 0 _ rfl; exact bq BK115.out)) : gb116 ≠ gb115)); replace BK115 := Aside0.mk (blk_below (g := gb115) (o := .cells #[.int .i64 t110, .int .i64 t111, .slice Ao53 t112.length co53] 24 (0, 0)) (by refine bq ?_; refine blk_put (cs := #[.int .i64 t110, .int .i64 t111, .slice none 0 0]) ?_ 2 _ rfl; refine bq ?_; refine blk_put (cs := #[.int .i64 t110, .int .i64 0, .slice none 0 0]) ?_ 1 _ rfl; refine bq ?_; refine blk_put (cs := #[.int .i64 0, .int .i64 0, .slice none 0 0]) ?_ 0 _ rfl; exact bq BK115.out) hb); clear hb hbox hg; have hnb56 := NB116_101.out; have hnc56 := NB101_116.out; have hnb57 := NB116_102.out; have hnc57 := NB102_116.out; have hnb58 := NB116_109.out; have hnc58 := NB109_116.out; have hnb59 := NB116_115.out; have hnc59 := NB115_116.out; obtain ⟨hcz60_0, hcz60_1, hcz60_2, hfz60_0, hfz60_1, hfz60_2⟩ := blk3 BK116.out; obtain ⟨hcz61_0, hcz61_1, hcz61_2, hfz61_0, hfz61_1, hfz61_2⟩ := blk3 BK109.out) | ((with_reducible refine gate_dst (N := 11) rfl ?_); refine box_event ?hg (N := 11) ?hd (cs := #[.int .i64 0, .int .i64 0, .slice none 0 0]) (t := 24) ?hr ?_; (case hd => rfl); (case hg => rfl); (case hr => exact qq6); intro gb117 hg w62 hbox hb; replace HO108 := Aside0.mk (Kd.N_below (Kd.N_elderB (by (with_reducible repeat (first | apply Kd.N_alloc | apply Kd.N_drewN | apply Kd.N_drew)); exact (Kd.N_mono (Kd.N_far (p := ⟨gb116, 1, none⟩) (Kd.N_far (p := ⟨gb116, 2, none⟩) (Kd.N_far (p := ⟨gb116, 1, none⟩) (Kd.N_far (p := ⟨gb116, 0, none⟩) (Kd.N_mono HO108.out (fun k_ hk => (⟨hk, hk.2⟩ : _ ∧ k_ ≠ gb116))) (fun _ hk => hk.2) (.int .i64 t104)) (fun _ hk => hk.2) (.int .i64 t105)) (fun _ hk => hk.2) (.slice Ao45 t106.length co45)) (fun _ hk => hk.2) (.int .i64 (wrap64 (1 + (Int.tmod t105 32767))))) (fun _ h_ => h_.1))) gb117 (Nat.le_of_eq hg.symm)) hb); replace HO114 := Aside0.mk (Kd.N_below (Kd.N_elderB (by (with_reducible repeat (first | apply Kd.N_alloc | apply Kd.N_drewN | apply Kd.N_drew)); exact (Kd.N_mono (Kd.N_far (p := ⟨gb116, 1, none⟩) (Kd.N_far (p := ⟨gb116, 2, none⟩) (Kd.N_far (p := ⟨gb116, 1, none⟩) (Kd.N_far (p := ⟨gb116, 0, none⟩) (Kd.N_mono HO114.out (fun k_ hk => (⟨hk, hk.2⟩ : _ ∧ k_ ≠ gb116))) (fun _ hk => hk.2) (.int .i64 t104)) (fun _ hk => hk.2) (.int .i64 t105)) (fun _ hk => hk.2) (.slice Ao45 t106.length co45)) (fun _ hk => hk.2) (.int .i64 (wrap64 (1 + (Int.tmod t105 32767))))) (fun _ h_ => h_.1))) gb117 (Nat.le_of_eq hg.symm)) hb); have BK117 := Aside0.mk (hbox); have GW117 := Aside0.mk ((by rw [hg]; exact (below_size (qS5 GE101 GE102 GE109 GE115 GE116 HB.out)) : w.heap.size ≤ gb117)); have GE117 := Aside0.mk ((by rw [hg]; exact (below_size (qS5 GE101 GE102 GE109 GE115 GE116 HB.out)) : w.heap.size ≤ gb117)); replace HB := Aside0.mk (below_step (qS5 GE101 GE102 GE109 GE115 GE116 HB.out) hb); have NB101_117 := Aside0.mk ((by rw [hg]; exact Nat.ne_of_lt (blk_lt (g := gb101) (o := .cells #[.int .i64 a0_0, .int .i64 a0_1, .slice A0_2 l0_2.length c0_2] 24 (0, 0)) (by refine bq ?_; refine blk_far ?_ NB101_116.out _; refine bq ?_; refine blk_far ?_ NB101_116.out _; refine bq ?_; refine blk_far ?_ NB101_116.out _; refine bq ?_; refine blk_far ?_ NB101_116.out _; exact bq BK101.out)) : gb101 ≠ gb117)); have NB117_101 := Aside0.mk ((by rw [hg]; exact Nat.ne_of_gt (blk_lt (g := gb101) (o := .cells #[.int .i64 a0_0, .int .i64 a0_1, .slice A0_2 l0_2.length c0_2] 24 (0, 0)) (by refine bq ?_; refine blk_far ?_ NB101_116.out _; refine bq ?_; refine blk_far ?_ NB101_116.out _; refine bq ?_; refine blk_far ?_ NB101_116.out _; refine bq ?_; refine blk_far ?_ NB101_116.out _; exact bq BK101.out)) : gb117 ≠ gb101)); replace BK101 := Aside0.mk (blk_below (g := gb101) (o := .cells #[.int .i64 a0_0, .int .i64 a0_1, .slice A0_2 l0_2.length c0_2] 24 (0, 0)) (by refine bq ?_; refine blk_far ?_ NB101_116.out _; refine bq ?_; refine blk_far ?_ NB101_116.out _; refine bq ?_; refine blk_far ?_ NB101_116.out _; refine bq ?_; refine blk_far ?_ NB101_116.out _; exact bq BK101.out) hb); have NB102_117 := Aside0.mk ((by rw [hg]; exact Nat.ne_of_lt (blk_lt (g := gb102) (o := .cells #[.int .i64 a1_0, .int .i64 a1_1, .slice A1_2 l1_2.length c1_2] 24 (0, 0)) (by refine bq ?_; refine blk_far ?_ NB102_116.out _; refine bq ?_; refine blk_far ?_ NB102_116.out _; refine bq ?_; refine blk_far ?_ NB102_116.out _; refine bq ?_; refine blk_far ?_ NB102_116.out _; exact bq BK102.out)) : gb102 ≠ gb117)); have NB117_102 := Aside0.mk ((by rw [hg]; exact Nat.ne_of_gt (blk_lt (g := gb102) (o := .cells #[.int .i64 a1_0, .int .i64 a1_1, .slice A1_2 l1_2.length c1_2] 24 (0, 0)) (by refine bq ?_; refine blk_far ?_ NB102_116.out _; refine bq ?_; refine blk_far ?_ NB102_116.out _; refine bq ?_; refine blk_far ?_ NB102_116.out _; refine bq ?_; refine blk_far ?_ NB102_116.out _; exact bq BK102.out)) : gb117 ≠ gb102)); replace BK102 := Aside0.mk (blk_below (g := gb102) (o := .cells #[.int .i64 a1_0, .int .i64 a1_1, .slice A1_2 l1_2.length c1_2] 24 (0, 0)) (by refine bq ?_; refine blk_far ?_ NB102_116.out _; refine bq ?_; refine blk_far ?_ NB102_116.out _; refine bq ?_; refine blk_far ?_ NB102_116.out _; refine bq ?_; refine blk_far ?_ NB102_116.out _; exact bq BK102.out) hb); have NB109_117 := Aside0.mk ((by rw [hg]; exact Nat.ne_of_lt (blk_lt (g := gb109) (o := .cells #[.int .i64 t104, .int .i64 t105, .slice Ao45 t106.length co45] 24 (0, 0)) (by refine bq ?_; refine blk_far ?_ NB109_116.out _; refine bq ?_; refine blk_far ?_ NB109_116.out _; refine bq ?_; refine blk_far ?_ NB109_116.out _; refine bq ?_; refine blk_far ?_ NB109_116.out _; exact bq BK109.out)) : gb109 ≠ gb117)); have NB117_109 := Aside0.mk ((by rw [hg]; exact Nat.ne_of_gt (blk_lt (g := gb109) (o := .cells #[.int .i64 t104, .int .i64 t105, .slice Ao45 t106.length co45] 24 (0, 0)) (by refine bq ?_; refine blk_far ?_ NB109_116.out _; refine bq ?_; refine blk_far ?_ NB109_116.out _; refine bq ?_; refine blk_far ?_ NB109_116.out _; refine bq ?_; refine blk_far ?_ NB109_116.out _; exact bq BK109.out)) : gb117 ≠ gb109)); replace BK109 := Aside0.mk (blk_below (g := gb109) (o := .cells #[.int .i64 t104, .int .i64 t105, .slice Ao45 t106.length co45] 24 (0, 0)) (by refine bq ?_; refine blk_far ?_ NB109_116.out _; refine bq ?_; refine blk_far ?_ NB109_116.out _; refine bq ?_; refine blk_far ?_ NB109_116.out _; refine bq ?_; refine blk_far ?_ NB109_116.out _; exact bq BK109.out) hb); have NB115_117 := Aside0.mk ((by rw [hg]; exact Nat.ne_of_lt (blk_lt (g := gb115) (o := .cells #[.int .i64 t110, .int .i64 t111, .slice Ao53 t112.length co53] 24 (0, 0)) (by refine bq ?_; refine blk_far ?_ NB115_116.out _; refine bq ?_; refine blk_far ?_ NB115_116.out _; refine bq ?_; refine blk_far ?_ NB115_116.out _; refine bq ?_; refine blk_far ?_ NB115_116.out _; exact bq BK115.out)) : gb115 ≠ gb117)); have NB117_115 := Aside0.mk ((by rw [hg]; exact Nat.ne_of_gt (blk_lt (g := gb115) (o := .cells #[.int .i64 t110, .int .i64 t111, .slice Ao53 t112.length co53] 24 (0, 0)) (by refine bq ?_; refine blk_far ?_ NB115_116.out _; refine bq ?_; refine blk_far ?_ NB115_116.out _; refine bq ?_; refine blk_far ?_ NB115_116.out _; refine bq ?_; refine blk_far ?_ NB115_116.out _; exact bq BK115.out)) : gb117 ≠ gb115)); replace BK115 := Aside0.mk (blk_below (g := gb115) (o := .cells #[.int .i64 t110, .int .i64 t111, .slice Ao53 t112.length co53] 24 (0, 0)) (by refine bq ?_; refine blk_far ?_ NB115_116.out _; refine bq ?_; refine blk_far ?_ NB115_116.out _; refine bq ?_; refine blk_far ?_ NB115_116.out _; refine bq ?_; refine blk_far ?_ NB115_116.out _; exact bq BK115.out) hb); have NB116_117 := Aside0.mk ((by rw [hg]; exact Nat.ne_of_lt (blk_lt (g := gb116) (o := .cells #[.int .i64 t104, .int .i64 (wrap64 (1 + (Int.tmod t105 32767))), .slice Ao45 t106.length co45] 24 (0, 0)) (by refine bq ?_; refine blk_put (cs := #[.int .i64 t104, .int .i64 t105, .slice Ao45 t106.length co45]) ?_ 1 _ rfl; refine bq ?_; refine blk_put (cs := #[.int .i64 t104, .int .i64 t105, .slice none 0 0]) ?_ 2 _ rfl; refine bq ?_; refine blk_put (cs := #[.int .i64 t104, .int .i64 0, .slice none 0 0]) ?_ 1 _ rfl; refine bq ?_; refine blk_put (cs := #[.int .i64 0, .int .i64 0, .slice none 0 0]) ?_ 0 _ rfl; exact bq BK116.out)) : gb116 ≠ gb117)); have NB117_116 := Aside0.mk ((by rw [hg]; exact Nat.ne_of_gt (blk_lt (g := gb116) (o := .cells #[.int .i64 t104, .int .i64 (wrap64 (1 + (Int.tmod t105 32767))), .slice Ao45 t106.length co45] 24 (0, 0)) (by refine bq ?_; refine blk_put (cs := #[.int .i64 t104, .int .i64 t105, .slice Ao45 t106.length co45]) ?_ 1 _ rfl; refine bq ?_; refine blk_put (cs := #[.int .i64 t104, .int .i64 t105, .slice none 0 0]) ?_ 2 _ rfl; refine bq ?_; refine blk_put (cs := #[.int .i64 t104, .int .i64 0, .slice none 0 0]) ?_ 1 _ rfl; refine bq ?_; refine blk_put (cs := #[.int .i64 0, .int .i64 0, .slice none 0 0]) ?_ 0 _ rfl; exact bq BK116.out)) : gb117 ≠ gb116)); replace BK116 := Aside0.mk (blk_below (g := gb116) (o := .cells #[.int .i64 t104, .int .i64 (wrap64 (1 + (Int.tmod t105 32767))), .slice Ao45 t106.length co45] 24 (0, 0)) (by refine bq ?_; refine blk_put (cs := #[.int .i64 t104, .int .i64 t105, .slice Ao45 t106.length co45]) ?_ 1 _ rfl; refine bq ?_; refine blk_put (cs := #[.int .i64 t104, .int .i64 t105, .slice none 0 0]) ?_ 2 _ rfl; refine bq ?_; refine blk_put (cs := #[.int .i64 t104, .int .i64 0, .slice none 0 0]) ?_ 1 _ rfl; refine bq ?_; refine blk_put (cs := #[.int .i64 0, .int .i64 0, .slice none 0 0]) ?_ 0 _ rfl; exact bq BK116.out) hb); clear hb hbox hg; have hnb63 := NB117_101.out; have hnc63 := NB101_117.out; have hnb64 := NB117_102.out; have hnc64 := NB102_117.out; have hnb65 := NB117_109.out; have hnc65 := NB109_117.out; have hnb66 := NB117_115.out; have hnc66 := NB115_117.out; have hnb67 := NB117_116.out; have hnc67 := NB116_117.out; obtain ⟨hcz68_0, hcz68_1, hcz68_2, hfz68_0, hfz68_1, hfz68_2⟩ := blk3 BK117.out; obtain ⟨hcz69_0, hcz69_1, hcz69_2, hfz69_0, hfz69_1, hfz69_2⟩ := blk3 BK109.out) | ((with_reducible refine gate_builtin (b := .append) (xs := #[.const (.slice none 0 0), .tmp 29]) rfl ?_); at_builtin; refine Kd.N_append_rows (Kd.slice 28 k28) (w0 := w) w.heap.size rfl (.const (.slice none 0 0)) (.tmp 29) 22 30 (.slice none 0 0) 24 rfl Try.underlying22 info30 rfl (by decide) (by omega) (.slice none 0 0) ([] : List (List (S28))) t106 _ _ _ (fun k_ => some k_ ≠ (.slice Ao53 t112.length co53 : Value).ownBlock ∧ k_ ≠ gb101 ∧ k_ ≠ gb102 ∧ k_ ≠ gb109 ∧ k_ ≠ gb115 ∧ k_ ≠ gb116 ∧ k_ ≠ gb117) (fun k_ => ((fun k_ => some k_ ≠ (.slice Ao53 t112.length co53 : Value).ownBlock ∧ k_ ≠ gb101 ∧ k_ ≠ gb102 ∧ k_ ≠ gb109 ∧ k_ ≠ gb115 ∧ k_ ≠ gb116 ∧ k_ ≠ gb117)) k_ ∧ some k_ ≠ (.slice none 0 0 : Value).ownBlock) rfl rfl ?aO ?aR (fun _ hk => hk) ?aF ?aB ?aS ?aL ?_; (case aR => exact (by skip; exact Kd.N_F (Kd.N_mono (ok' := (fun k_ => ((fun k_ => some k_ ≠ (.slice Ao53 t112.length co53 : Value).ownBlock ∧ k_ ≠ gb101 ∧ k_ ≠ gb102 ∧ k_ ≠ gb109 ∧ k_ ≠ gb115 ∧ k_ ≠ gb116 ∧ k_ ≠ gb117)) k_ ∧ some k_ ≠ (.slice none 0 0 : Value).ownBlock)) ((Kd.N_far (p := ⟨gb117, 2, none⟩) (Kd.N_far (p := ⟨gb117, 1, none⟩) (Kd.N_far (p := ⟨gb117, 0, none⟩) (Kd.N_mono HO108.out (fun k_ hk => (⟨hk, hk.2⟩ : _ ∧ k_ ≠ gb117))) (fun _ hk => hk.2) (.int .i64 t104)) (fun _ hk => hk.2) (.int .i64 t105)) (fun _ hk => hk.2) (.slice Ao45 t106.length co45))) (fun k_ hk => ⟨⟨hk.1.1.1.1.2, ⟨hk.1.1.1.1.1.1.1, ⟨hk.1.1.1.1.1.1.2, ⟨hk.1.1.1.1.1.2, ⟨hk.1.1.1.2, ⟨hk.1.1.2, hk.1.2⟩⟩⟩⟩⟩⟩, qqn⟩)))); (case aB => exact (qS6 GE101 GE102 GE109 GE115 GE116 GE117 HB.out)); (case aF => exact (fun k_ hk => ⟨Kd.fresh' (Kd.N_lt qqU) k_ hk, Kd.freshB (g := gb101) (o := .cells #[.int .i64 a0_0, .int .i64 a0_1, .slice A0_2 l0_2.length c0_2] 24 (0, 0)) (by refine bq ?_; refine blk_far ?_ NB101_117.out _; refine bq ?_; refine blk_far ?_ NB101_117.out _; refine bq ?_; refine blk_far ?_ NB101_117.out _; exact bq BK101.out) k_ hk, Kd.freshB (g := gb102) (o := .cells #[.int .i64 a1_0, .int .i64 a1_1, .slice A1_2 l1_2.length c1_2] 24 (0, 0)) (by refine bq ?_; refine blk_far ?_ NB102_117.out _; refine bq ?_; refine blk_far ?_ NB102_117.out _; refine bq ?_; refine blk_far ?_ NB102_117.out _; exact bq BK102.out) k_ hk, Kd.freshB (g := gb109) (o := .cells #[.int .i64 t104, .int .i64 t105, .slice Ao45 t106.length co45] 24 (0, 0)) (by refine bq ?_; refine blk_far ?_ NB109_117.out _; refine bq ?_; refine blk_far ?_ NB109_117.out _; refine bq ?_; refine blk_far ?_ NB109_117.out _; exact bq BK109.out) k_ hk, Kd.freshB (g := gb115) (o := .cells #[.int .i64 t110, .int .i64 t111, .slice Ao53 t112.length co53] 24 (0, 0)) (by refine bq ?_; refine blk_far ?_ NB115_117.out _; refine bq ?_; refine blk_far ?_ NB115_117.out _; refine bq ?_; refine blk_far ?_ NB115_117.out _; exact bq BK115.out) k_ hk, Kd.freshB (g := gb116) (o := .cells #[.int .i64 t104, .int .i64 (wrap64 (1 + (Int.tmod t105 32767))), .slice Ao45 t106.length co45] 24 (0, 0)) (by refine bq ?_; refine blk_far ?_ NB116_117.out _; refine bq ?_; refine blk_far ?_ NB116_117.out _; refine bq ?_; refine blk_far ?_ NB116_117.out _; exact bq BK116.out) k_ hk, Kd.freshB (g := gb117) (o := .cells #[.int .i64 t104, .int .i64 t105, .slice Ao45 t106.length co45] 24 (0, 0)) (by refine bq ?_; refine blk_put (cs := #[.int .i64 t104, .int .i64 t105, .slice none 0 0]) ?_ 2 _ rfl; refine bq ?_; refine blk_put (cs := #[.int .i64 t104, .int .i64 0, .slice none 0 0]) ?_ 1 _ rfl; refine bq ?_; refine blk_put (cs := #[.int .i64 0, .int .i64 0, .slice none 0 0]) ?_ 0 _ rfl; exact bq BK117.out) k_ hk⟩)); (case aO => exact ((Kd.N_nil _ _ _ _ (fun k_ => some k_ ≠ (.slice Ao53 t112.length co53 : Value).ownBlock ∧ k_ ≠ gb101 ∧ k_ ≠ gb102 ∧ k_ ≠ gb109 ∧ k_ ≠ gb115 ∧ k_ ≠ gb116 ∧ k_ ≠ gb117)))); (case aS => exact (below_size (qS6 GE101 GE102 GE109 GE115 GE116 GE117 HB.out))); (case aL => have := LMc8.out; omega); intro v119 w70 ho hb hg hat; rw [← Ny118.out] at ho; replace BK101 := Aside0.mk (blk_grown (g := gb101) (o := .cells #[.int .i64 a0_0, .int .i64 a0_1, .slice A0_2 l0_2.length c0_2] 24 (0, 0)) (by refine bq ?_; refine blk_far ?_ NB101_117.out _; refine bq ?_; refine blk_far ?_ NB101_117.out _; refine bq ?_; refine blk_far ?_ NB101_117.out _; exact bq BK101.out) hg qqn); replace BK102 := Aside0.mk (blk_grown (g := gb102) (o := .cells #[.int .i64 a1_0, .int .i64 a1_1, .slice A1_2 l1_2.length c1_2] 24 (0, 0)) (by refine bq ?_; refine blk_far ?_ NB102_117.out _; refine bq ?_; refine blk_far ?_ NB102_117.out _; refine bq ?_; refine blk_far ?_ NB102_117.out _; exact bq BK102.out) hg qqn); replace HO108 := Aside0.mk (Kd.N_afterv (Kd.N_apart_nil (by (with_reducible repeat (first | apply Kd.N_alloc | apply Kd.N_drewN | apply Kd.N_drew)); exact (Kd.N_mono (Kd.N_far (p := ⟨gb117, 2, none⟩) (Kd.N_far (p := ⟨gb117, 1, none⟩) (Kd.N_far (p := ⟨gb117, 0, none⟩) (Kd.N_mono HO108.out (fun k_ hk => (⟨hk, hk.2⟩ : _ ∧ k_ ≠ gb117))) (fun _ hk => hk.2) (.int .i64 t104)) (fun _ hk => hk.2) (.int .i64 t105)) (fun _ hk => hk.2) (.slice Ao45 t106.length co45)) (fun _ h_ => h_.1)))) hg hat); replace BK109 := Aside0.mk (blk_grown (g := gb109) (o := .cells #[.int .i64 t104, .int .i64 t105, .slice Ao45 t106.length co45] 24 (0, 0)) (by refine bq ?_; refine blk_far ?_ NB109_117.out _; refine bq ?_; refine blk_far ?_ NB109_117.out _; refine bq ?_; refine blk_far ?_ NB109_117.out _; exact bq BK109.out) hg qqn); replace HO114 := Aside0.mk (Kd.N_afterv (Kd.N_apart_nil qqU) hg hat); replace BK115 := Aside0.mk (blk_grown (g := gb115) (o := .cells #[.int .i64 t110, .int .i64 t111, .slice Ao53 t112.length co53] 24 (0, 0)) (by refine bq ?_; refine blk_far ?_ NB115_117.out _; refine bq ?_; refine blk_far ?_ NB115_117.out _; refine bq ?_; refine blk_far ?_ NB115_117.out _; exact bq BK115.out) hg qqn); replace BK116 := Aside0.mk (blk_grown (g := gb116) (o := .cells #[.int .i64 t104, .int .i64 (wrap64 (1 + (Int.tmod t105 32767))), .slice Ao45 t106.length co45] 24 (0, 0)) (by refine bq ?_; refine blk_far ?_ NB116_117.out _; refine bq ?_; refine blk_far ?_ NB116_117.out _; refine bq ?_; refine blk_far ?_ NB116_117.out _; exact bq BK116.out) hg qqn); replace BK117 := Aside0.mk (blk_grown (g := gb117) (o := .cells #[.int .i64 t104, .int .i64 t105, .slice Ao45 t106.length co45] 24 (0, 0)) (by refine bq ?_; refine blk_put (cs := #[.int .i64 t104, .int .i64 t105, .slice none 0 0]) ?_ 2 _ rfl; refine bq ?_; refine blk_put (cs := #[.int .i64 t104, .int .i64 0, .slice none 0 0]) ?_ 1 _ rfl; refine bq ?_; refine blk_put (cs := #[.int .i64 0, .int .i64 0, .slice none 0 0]) ?_ 0 _ rfl; exact bq BK117.out) hg qqn); replace HB := Aside0.mk (hb); have HO120 := Aside0.mk (ho); clear ho hb hg hat) | ((with_reducible refine gate_callee (f := 13) rfl ?_); refine goesL_ (some 31) rfl rfl Try.func13 (by kernel_rfl) rfl #[.int .i64 0] rfl qq0 ?_; (with_reducible refine (partitalaw16_End.calls 0 t121 t122 t123 t124 t125 t126 _ A9.out).mono ?_); rintro e w71 ⟨rfl, hb⟩; refine ⟨_, rfl, ?_⟩; replace HO108 := Aside0.mk (Kd.N_below (qN HO108.out) hb); replace HO114 := Aside0.mk (Kd.N_below (qN HO114.out) hb); replace HO120 := Aside0.mk (Kd.N_below (qN HO120.out) hb); replace BK101 := Aside0.mk (blk_below (bq BK101.out) hb); replace BK102 := Aside0.mk (blk_below (bq BK102.out) hb); replace BK109 := Aside0.mk (blk_below (bq BK109.out) hb); replace BK115 := Aside0.mk (blk_below (bq BK115.out) hb); replace BK116 := Aside0.mk (blk_below (g := gb116) (o := .cells #[.int .i64 t104, .int .i64 (wrap64 (1 + (Int.tmod t105 32767))), .slice Ao45 t106.length co45] 24 (0, 0)) (bq BK116.out) hb); replace BK117 := Aside0.mk (blk_below (bq BK117.out) hb); replace HB := Aside0.mk (below_step (qS6 GE101 GE102 GE109 GE115 GE116 GE117 HB.out) hb); (try clear hb); (try clear hb2); (try clear hk); (try clear hi)) | ((with_reducible refine gate_dst (N := 32) rfl ?_); refine Kd.R_lit k28 _ 28 ?hg (N := 32) ?hd (xs := ([(⟨t121, t122, t123, t124, t125, t126⟩ : S28)] : List (S28))) (inner := [.int .i64 t121, .int .i64 t122, .int .i64 t123, .int .i64 t124, .int .i64 t125, .string t126]) (ok := fun _ => True) (okp := fun _ => True) ?hr ?hp (fun _ hk => hk) trivial (Below.refl _ _) (Nat.le_refl _) (by simp) ?_; (case hd => rfl); (case hg => rfl); (case hr => exact qq6); (case hp => exact (Reps.c6 (show Kd.M k28 _ _ _ (⟨t121, t122, t123, t124, t125, t126⟩ : S28) [.int .i64 t121, .int .i64 t122, .int .i64 t123, .int .i64 t124, .int .i64 t125, .string t126] from (k28_mkM _ _ _ (⟨t121, t122, t123, t124, t125, t126⟩ : S28) )) (Reps.none _ _))); intro v128 w72 ho73 hb hg_ hnew_; clear hg_ hnew_; (first | rw [← Ny127.out] at ho73 | (simp only [Int.reduceToNat] at ho73; rw [← Ny127.out] at ho73)); replace HO108 := Aside0.mk (Kd.N_elder' (qN HO108.out) (Kd.R_base ho73) hb); replace HO114 := Aside0.mk (Kd.N_elder' (qN HO114.out) (Kd.R_base ho73) hb); replace HO120 := Aside0.mk (Kd.N_elder' (qN HO120.out) (Kd.R_base ho73) hb); have HO129 := Aside0.mk (Kd.R_lower ho73 (below_size (qS6 GE101 GE102 GE109 GE115 GE116 GE117 HB.out))); replace BK101 := Aside0.mk (blk_below (bq BK101.out) hb); replace BK102 := Aside0.mk (blk_below (bq BK102.out) hb); replace BK109 := Aside0.mk (blk_below (bq BK109.out) hb); replace BK115 := Aside0.mk (blk_below (bq BK115.out) hb); replace BK116 := Aside0.mk (blk_below (g := gb116) (o := .cells #[.int .i64 t104, .int .i64 (wrap64 (1 + (Int.tmod t105 32767))), .slice Ao45 t106.length co45] 24 (0, 0)) (bq BK116.out) hb); replace BK117 := Aside0.mk (blk_below (bq BK117.out) hb); replace HB := Aside0.mk (below_step (qS6 GE101 GE102 GE109 GE115 GE116 GE117 HB.out) hb); clear hb ho73; obtain ⟨Ao75, co75, eo75⟩ := Kd.R_slice HO129.out; subst eo75) | ((with_reducible refine gate_builtin (b := .append) (xs := #[.tmp 30, .tmp 33]) rfl ?_); at_builtin; refine Kd.N_append (Kd.slice 28 k28) (w0 := w) w.heap.size rfl (.tmp 30) (.tmp 33) 22 30 (.slice none 0 0) 24 rfl Try.underlying22 info30 rfl (by decide) (by omega) v119 y118 y127 [.slice Ao75 y127.length co75] (fun k_ => some k_ ≠ (.slice Ao53 t112.length co53 : Value).ownBlock ∧ k_ ≠ gb101 ∧ k_ ≠ gb102 ∧ k_ ≠ gb109 ∧ k_ ≠ gb115 ∧ k_ ≠ gb116 ∧ k_ ≠ gb117) (fun k_ => ((fun k_ => some k_ ≠ (.slice Ao53 t112.length co53 : Value).ownBlock ∧ k_ ≠ gb101 ∧ k_ ≠ gb102 ∧ k_ ≠ gb109 ∧ k_ ≠ gb115 ∧ k_ ≠ gb116 ∧ k_ ≠ gb117)) k_ ∧ some k_ ≠ (v119 : Value).ownBlock) rfl rfl ?aP (fun _ hk => hk) ?aF ?aO ?aB ?aS ?aL ?_; (case aP => exact (Kd.FK_slice_mk (Kd.R_reads' (Kd.R_mono (ok' := (fun k_ => ((fun k_ => some k_ ≠ (.slice Ao53 t112.length co53 : Value).ownBlock ∧ k_ ≠ gb101 ∧ k_ ≠ gb102 ∧ k_ ≠ gb109 ∧ k_ ≠ gb115 ∧ k_ ≠ gb116 ∧ k_ ≠ gb117)) k_ ∧ some k_ ≠ (v119 : Value).ownBlock)) (Kd.R_types (Kd.R_types (Kd.R_types (Kd.R_types (Kd.R_types (Kd.R_types (Kd.R_apart' (Kd.R_apart' (HO129.out) (Kd.N_typed HO114.out) (by decide)) (Kd.N_typed HO120.out) (by decide)) BK101.out (by decide)) BK102.out (by decide)) BK109.out (by decide)) BK115.out (by decide)) BK116.out (by decide)) BK117.out (by decide)) (fun k_ hk => ⟨⟨hk.1.1.1.1.1.1.1.2, ⟨hk.1.1.1.1.1.2, ⟨hk.1.1.1.1.2, ⟨hk.1.1.1.2, ⟨hk.1.1.2, ⟨hk.1.2, hk.2⟩⟩⟩⟩⟩⟩, hk.1.1.1.1.1.1.2⟩))).2.1 (Kd.R_F (Kd.R_mono (ok' := (fun k_ => ((fun k_ => some k_ ≠ (.slice Ao53 t112.length co53 : Value).ownBlock ∧ k_ ≠ gb101 ∧ k_ ≠ gb102 ∧ k_ ≠ gb109 ∧ k_ ≠ gb115 ∧ k_ ≠ gb116 ∧ k_ ≠ gb117)) k_ ∧ some k_ ≠ (v119 : Value).ownBlock)) (Kd.R_types (Kd.R_types (Kd.R_types (Kd.R_types (Kd.R_types (Kd.R_types (Kd.R_apart' (Kd.R_apart' (HO129.out) (Kd.N_typed HO114.out) (by decide)) (Kd.N_typed HO120.out) (by decide)) BK101.out (by decide)) BK102.out (by decide)) BK109.out (by decide)) BK115.out (by decide)) BK116.out (by decide)) BK117.out (by decide)) (fun k_ hk => ⟨⟨hk.1.1.1.1.1.1.1.2, ⟨hk.1.1.1.1.1.2, ⟨hk.1.1.1.1.2, ⟨hk.1.1.1.2, ⟨hk.1.1.2, ⟨hk.1.2, hk.2⟩⟩⟩⟩⟩⟩, hk.1.1.1.1.1.1.2⟩))))); (case aB => exact (qS6 GE101 GE102 GE109 GE115 GE116 GE117 HB.out)); (case aF => exact (fun k_ hk => ⟨Kd.fresh' (Kd.N_lt (qN HO114.out)) k_ hk, Kd.freshB (bq BK101.out) k_ hk, Kd.freshB (bq BK102.out) k_ hk, Kd.freshB (bq BK109.out) k_ hk, Kd.freshB (bq BK115.out) k_ hk, Kd.freshB (g := gb116) (o := .cells #[.int .i64 t104, .int .i64 (wrap64 (1 + (Int.tmod t105 32767))), .slice Ao45 t106.length co45] 24 (0, 0)) (bq BK116.out) k_ hk, Kd.freshB (bq BK117.out) k_ hk⟩)); (case aO => exact (by (with_reducible repeat (first | apply Kd.N_alloc | apply Kd.N_drewN | apply Kd.N_drew)); exact Kd.N_mono HO120.out (fun _ hk => ⟨hk.1.1, ⟨hk.1.2.1, ⟨hk.1.2.2.1, ⟨hk.1.2.2.2.1, ⟨hk.1.2.2.2.2.1, ⟨hk.1.2.2.2.2.2.1, hk.1.2.2.2.2.2.2⟩⟩⟩⟩⟩⟩))); (case aS => exact (below_size (qS6 GE101 GE102 GE109 GE115 GE116 GE117 HB.out))); (case aL => have := LMc10.out; omega); intro v131 w74 ho hb hg hat; rw [← Ny130.out] at ho; replace BK101 := Aside0.mk (blk_grown (bq BK101.out) hg (Kd.N_ne HO120.out BK101.out (by decide))); replace BK102 := Aside0.mk (blk_grown (bq BK102.out) hg (Kd.N_ne HO120.out BK102.out (by decide))); replace HO108 := Aside0.mk (Kd.N_afterv (ok := (fun k_ => some k_ ≠ (.slice Ao53 t112.length co53 : Value).ownBlock ∧ some k_ ≠ (.slice Ao75 y127.length co75 : Value).ownBlock ∧ k_ ≠ gb101 ∧ k_ ≠ gb102 ∧ k_ ≠ gb109 ∧ k_ ≠ gb115 ∧ k_ ≠ gb116 ∧ k_ ≠ gb117)) (by (with_reducible repeat (first | apply Kd.N_alloc | apply Kd.N_drewN | apply Kd.N_drew)); exact Kd.N_mono HO108.out (fun _ hk => ⟨⟨hk.1.1.1.1.1.2, ⟨hk.2, ⟨hk.1.1.1.1.1.1.1.1, ⟨hk.1.1.1.1.1.1.1.2, ⟨hk.1.1.1.1.1.1.2, ⟨hk.1.1.1.1.2, ⟨hk.1.1.1.2, hk.1.1.2⟩⟩⟩⟩⟩⟩⟩, hk.1.2⟩)) hg hat); replace BK109 := Aside0.mk (blk_grown (bq BK109.out) hg (Kd.N_ne HO120.out BK109.out (by decide))); replace HO114 := Aside0.mk (Kd.N_afterv (ok := (fun k_ => some k_ ≠ (.slice Ao45 t106.length co45 : Value).ownBlock ∧ some k_ ≠ (.slice Ao75 y127.length co75 : Value).ownBlock ∧ k_ ≠ gb101 ∧ k_ ≠ gb102 ∧ k_ ≠ gb109 ∧ k_ ≠ gb115 ∧ k_ ≠ gb116 ∧ k_ ≠ gb117)) (by (with_reducible repeat (first | apply Kd.N_alloc | apply Kd.N_drewN | apply Kd.N_drew)); exact Kd.N_mono HO114.out (fun _ hk => ⟨⟨hk.1.1.1.1.1.1, ⟨hk.2, ⟨hk.1.1.1.1.1.2.1, ⟨hk.1.1.1.1.1.2.2.1, ⟨hk.1.1.1.1.1.2.2.2, ⟨hk.1.1.1.1.2, ⟨hk.1.1.1.2, hk.1.1.2⟩⟩⟩⟩⟩⟩⟩, hk.1.2⟩)) hg hat); replace BK115 := Aside0.mk (blk_grown (bq BK115.out) hg (Kd.N_ne HO120.out BK115.out (by decide))); replace BK116 := Aside0.mk (blk_grown (g := gb116) (o := .cells #[.int .i64 t104, .int .i64 (wrap64 (1 + (Int.tmod t105 32767))), .slice Ao45 t106.length co45] 24 (0, 0)) (bq BK116.out) hg (Kd.N_ne HO120.out BK116.out (by decide))); replace BK117 := Aside0.mk (blk_grown (bq BK117.out) hg (Kd.N_ne HO120.out BK117.out (by decide))); replace HB := Aside0.mk (hb); have HO132 := Aside0.mk (ho); clear HO120 HO129; clear ho hb hg hat; obtain ⟨Ao76, co76, eo76⟩ := Kd.N_slice HO132.out; subst eo76; obtain ⟨hcz77_0, hcz77_1, hcz77_2, hfz77_0, hfz77_1, hfz77_2⟩ := blk3 BK117.out; obtain ⟨hcz78_0, hcz78_1, hcz78_2, hfz78_0, hfz78_1, hfz78_2⟩ := blk3 BK109.out) | ((with_reducible refine gate_dst (N := 12) rfl ?_); refine box_event ?hg (N := 12) ?hd (cs := #[.int .i64 0, .int .i64 0, .slice none 0 0]) (t := 24) ?hr ?_; (case hd => rfl); (case hg => rfl); (case hr => exact qq6); intro gb133 hg w79 hbox hb; replace HO108 := Aside0.mk (Kd.N_below (Kd.N_elderB (by (with_reducible repeat (first | apply Kd.N_alloc | apply Kd.N_drewN | apply Kd.N_drew)); exact (Kd.N_mono (Kd.N_far (p := ⟨gb117, 2, none⟩) (Kd.N_mono HO108.out (fun k_ hk => (⟨hk, hk.1.2.2.2.2.2.2.2⟩ : _ ∧ k_ ≠ gb117))) (fun _ hk => hk.2) (.slice Ao76 y130.length co76)) (fun _ h_ => h_.1))) gb133 (Nat.le_of_eq hg.symm)) hb); replace HO114 := Aside0.mk (Kd.N_below (Kd.N_elderB (by (with_reducible repeat (first | apply Kd.N_alloc | apply Kd.N_drewN | apply Kd.N_drew)); exact (Kd.N_mono (Kd.N_far (p := ⟨gb117, 2, none⟩) (Kd.N_mono HO114.out (fun k_ hk => (⟨hk, hk.1.2.2.2.2.2.2.2⟩ : _ ∧ k_ ≠ gb117))) (fun _ hk => hk.2) (.slice Ao76 y130.length co76)) (fun _ h_ => h_.1))) gb133 (Nat.le_of_eq hg.symm)) hb); replace HO132 := Aside0.mk (Kd.N_below (Kd.N_elderB (by (with_reducible repeat (first | apply Kd.N_alloc | apply Kd.N_drewN | apply Kd.N_drew)); exact (Kd.N_mono (Kd.N_far (p := ⟨gb117, 2, none⟩) (Kd.N_mono HO132.out (fun k_ hk => (⟨hk, hk.2.2.2.2.2.2⟩ : _ ∧ k_ ≠ gb117))) (fun _ hk => hk.2) (.slice Ao76 y130.length co76)) (fun _ h_ => h_.1))) gb133 (Nat.le_of_eq hg.symm)) hb); have BK133 := Aside0.mk (hbox); have GW133 := Aside0.mk ((by rw [hg]; exact (below_size (qS6 GE101 GE102 GE109 GE115 GE116 GE117 HB.out)) : w.heap.size ≤ gb133)); have GE133 := Aside0.mk ((by rw [hg]; exact (below_size (qS6 GE101 GE102 GE109 GE115 GE116 GE117 HB.out)) : w.heap.size ≤ gb133)); replace HB := Aside0.mk (below_step (qS6 GE101 GE102 GE109 GE115 GE116 GE117 HB.out) hb); have NB101_133 := Aside0.mk ((by rw [hg]; exact Nat.ne_of_lt (blk_lt (g := gb101) (o := .cells #[.int .i64 a0_0, .int .i64 a0_1, .slice A0_2 l0_2.length c0_2] 24 (0, 0)) (by refine bq ?_; refine blk_far ?_ NB101_117.out _; exact bq BK101.out)) : gb101 ≠ gb133)); have NB133_101 := Aside0.mk ((by rw [hg]; exact Nat.ne_of_gt (blk_lt (g := gb101) (o := .cells #[.int .i64 a0_0, .int .i64 a0_1, .slice A0_2 l0_2.length c0_2] 24 (0, 0)) (by refine bq ?_; refine blk_far ?_ NB101_117.out _; exact bq BK101.out)) : gb133 ≠ gb101)); replace BK101 := Aside0.mk (blk_below (g := gb101) (o := .cells #[.int .i64 a0_0, .int .i64 a0_1, .slice A0_2 l0_2.length c0_2] 24 (0, 0)) (by refine bq ?_; refine blk_far ?_ NB101_117.out _; exact bq BK101.out) hb); have NB102_133 := Aside0.mk ((by rw [hg]; exact Nat.ne_of_lt (blk_lt (g := gb102) (o := .cells #[.int .i64 a1_0, .int .i64 a1_1, .slice A1_2 l1_2.length c1_2] 24 (0, 0)) (by refine bq ?_; refine blk_far ?_ NB102_117.out _; exact bq BK102.out)) : gb102 ≠ gb133)); have NB133_102 := Aside0.mk ((by rw [hg]; exact Nat.ne_of_gt (blk_lt (g := gb102) (o := .cells #[.int .i64 a1_0, .int .i64 a1_1, .slice A1_2 l1_2.length c1_2] 24 (0, 0)) (by refine bq ?_; refine blk_far ?_ NB102_117.out _; exact bq BK102.out)) : gb133 ≠ gb102)); replace BK102 := Aside0.mk (blk_below (g := gb102) (o := .cells #[.int .i64 a1_0, .int .i64 a1_1, .slice A1_2 l1_2.length c1_2] 24 (0, 0)) (by refine bq ?_; refine blk_far ?_ NB102_117.out _; exact bq BK102.out) hb); have NB109_133 := Aside0.mk ((by rw [hg]; exact Nat.ne_of_lt (blk_lt (g := gb109) (o := .cells #[.int .i64 t104, .int .i64 t105, .slice Ao45 t106.length co45] 24 (0, 0)) (by refine bq ?_; refine blk_far ?_ NB109_117.out _; exact bq BK109.out)) : gb109 ≠ gb133)); have NB133_109 := Aside0.mk ((by rw [hg]; exact Nat.ne_of_gt (blk_lt (g := gb109) (o := .cells #[.int .i64 t104, .int .i64 t105, .slice Ao45 t106.length co45] 24 (0, 0)) (by refine bq ?_; refine blk_far ?_ NB109_117.out _; exact bq BK109.out)) : gb133 ≠ gb109)); replace BK109 := Aside0.mk (blk_below (g := gb109) (o := .cells #[.int .i64 t104, .int .i64 t105, .slice Ao45 t106.length co45] 24 (0, 0)) (by refine bq ?_; refine blk_far ?_ NB109_117.out _; exact bq BK109.out) hb); have NB115_133 := Aside0.mk ((by rw [hg]; exact Nat.ne_of_lt (blk_lt (g := gb115) (o := .cells #[.int .i64 t110, .int .i64 t111, .slice Ao53 t112.length co53] 24 (0, 0)) (by refine bq ?_; refine blk_far ?_ NB115_117.out _; exact bq BK115.out)) : gb115 ≠ gb133)); have NB133_115 := Aside0.mk ((by rw [hg]; exact Nat.ne_of_gt (blk_lt (g := gb115) (o := .cells #[.int .i64 t110, .int .i64 t111, .slice Ao53 t112.length co53] 24 (0, 0)) (by refine bq ?_; refine blk_far ?_ NB115_117.out _; exact bq BK115.out)) : gb133 ≠ gb115)); replace BK115 := Aside0.mk (blk_below (g := gb115) (o := .cells #[.int .i64 t110, .int .i64 t111, .slice Ao53 t112.length co53] 24 (0, 0)) (by refine bq ?_; refine blk_far ?_ NB115_117.out _; exact bq BK115.out) hb); have NB116_133 := Aside0.mk ((by rw [hg]; exact Nat.ne_of_lt (blk_lt (g := gb116) (o := .cells #[.int .i64 t104, .int .i64 (wrap64 (1 + (Int.tmod t105 32767))), .slice Ao45 t106.length co45] 24 (0, 0)) (by refine bq ?_; refine blk_far ?_ NB116_117.out _; exact bq BK116.out)) : gb116 ≠ gb133)); have NB133_116 := Aside0.mk ((by rw [hg]; exact Nat.ne_of_gt (blk_lt (g := gb116) (o := .cells #[.int .i64 t104, .int .i64 (wrap64 (1 + (Int.tmod t105 32767))), .slice Ao45 t106.length co45] 24 (0, 0)) (by refine bq ?_; refine blk_far ?_ NB116_117.out _; exact bq BK116.out)) : gb133 ≠ gb116)); replace BK116 := Aside0.mk (blk_below (g := gb116) (o := .cells #[.int .i64 t104, .int .i64 (wrap64 (1 + (Int.tmod t105 32767))), .slice Ao45 t106.length co45] 24 (0, 0)) (by refine bq ?_; refine blk_far ?_ NB116_117.out _; exact bq BK116.out) hb); have NB117_133 := Aside0.mk ((by rw [hg]; exact Nat.ne_of_lt (blk_lt (g := gb117) (o := .cells #[.int .i64 t104, .int .i64 t105, .slice Ao76 y130.length co76] 24 (0, 0)) (by refine bq ?_; refine blk_put (cs := #[.int .i64 t104, .int .i64 t105, .slice Ao45 t106.length co45]) ?_ 2 _ rfl; exact bq BK117.out)) : gb117 ≠ gb133)); have NB133_117 := Aside0.mk ((by rw [hg]; exact Nat.ne_of_gt (blk_lt (g := gb117) (o := .cells #[.int .i64 t104, .int .i64 t105, .slice Ao76 y130.length co76] 24 (0, 0)) (by refine bq ?_; refine blk_put (cs := #[.int .i64 t104, .int .i64 t105, .slice Ao45 t106.length co45]) ?_ 2 _ rfl; exact bq BK117.out)) : gb133 ≠ gb117)); replace BK117 := Aside0.mk (blk_below (g := gb117) (o := .cells #[.int .i64 t104, .int .i64 t105, .slice Ao76 y130.length co76] 24 (0, 0)) (by refine bq ?_; refine blk_put (cs := #[.int .i64 t104, .int .i64 t105, .slice Ao45 t106.length co45]) ?_ 2 _ rfl; exact bq BK117.out) hb); clear hb hbox hg; have hnb80 := NB133_101.out; have hnc80 := NB101_133.out; have hnb81 := NB133_102.out; have hnc81 := NB102_133.out; have hnb82 := NB133_109.out; have hnc82 := NB109_133.out; have hnb83 := NB133_115.out; have hnc83 := NB115_133.out; have hnb84 := NB133_116.out; have hnc84 := NB116_133.out; have hnb85 := NB133_117.out; have hnc85 := NB117_133.out; obtain ⟨hcz86_0, hcz86_1, hcz86_2, hfz86_0, hfz86_1, hfz86_2⟩ := blk3 BK133.out; obtain ⟨hcz87_0, hcz87_1, hcz87_2, hfz87_0, hfz87_1, hfz87_2⟩ := blk3 BK109.out) | ((with_reducible refine gate_builtin (b := .append) (xs := #[.const (.slice none 0 0), .tmp 44]) rfl ?_); at_builtin; refine Kd.N_append_rows (Kd.slice 28 k28) (w0 := w) w.heap.size rfl (.const (.slice none 0 0)) (.tmp 44) 22 30 (.slice none 0 0) 24 rfl Try.underlying22 info30 rfl (by decide) (by omega) (.slice none 0 0) ([] : List (List (S28))) t106 _ _ _ (fun k_ => some k_ ≠ (.slice Ao53 t112.length co53 : Value).ownBlock ∧ some k_ ≠ (.slice Ao76 y130.length co76 : Value).ownBlock ∧ k_ ≠ gb101 ∧ k_ ≠ gb102 ∧ k_ ≠ gb109 ∧ k_ ≠ gb115 ∧ k_ ≠ gb116 ∧ k_ ≠ gb117 ∧ k_ ≠ gb133) (fun k_ => ((fun k_ => some k_ ≠ (.slice Ao53 t112.length co53 : Value).ownBlock ∧ some k_ ≠ (.slice Ao76 y130.length co76 : Value).ownBlock ∧ k_ ≠ gb101 ∧ k_ ≠ gb102 ∧ k_ ≠ gb109 ∧ k_ ≠ gb115 ∧ k_ ≠ gb116 ∧ k_ ≠ gb117 ∧ k_ ≠ gb133)) k_ ∧ some k_ ≠ (.slice none 0 0 : Value).ownBlock) rfl rfl ?aO ?aR (fun _ hk => hk) ?aF ?aB ?aS ?aL ?_; (case aR => exact (by skip; exact Kd.N_F (Kd.N_mono (ok' := (fun k_ => ((fun k_ => some k_ ≠ (.slice Ao53 t112.length co53 : Value).ownBlock ∧ some k_ ≠ (.slice Ao76 y130.length co76 : Value).ownBlock ∧ k_ ≠ gb101 ∧ k_ ≠ gb102 ∧ k_ ≠ gb109 ∧ k_ ≠ gb115 ∧ k_ ≠ gb116 ∧ k_ ≠ gb117 ∧ k_ ≠ gb133)) k_ ∧ some k_ ≠ (.slice none 0 0 : Value).ownBlock)) ((Kd.N_far (p := ⟨gb133, 2, none⟩) (Kd.N_far (p := ⟨gb133, 1, none⟩) (Kd.N_far (p := ⟨gb133, 0, none⟩) (Kd.N_mono HO108.out (fun k_ hk => (⟨hk, hk.2⟩ : _ ∧ k_ ≠ gb133))) (fun _ hk => hk.2) (.int .i64 t104)) (fun _ hk => hk.2) (.int .i64 t105)) (fun _ hk => hk.2) (.slice Ao45 t106.length co45))) (fun k_ hk => ⟨⟨hk.1.1.1.1, ⟨hk.1.1.2, ⟨hk.1.1.1.2.2.1, ⟨hk.1.1.1.2.2.2.1, ⟨hk.1.1.1.2.2.2.2.1, ⟨hk.1.1.1.2.2.2.2.2.1, ⟨hk.1.1.1.2.2.2.2.2.2.1, ⟨hk.1.1.1.2.2.2.2.2.2.2, hk.1.2⟩⟩⟩⟩⟩⟩⟩⟩, qqn⟩)))); (case aB => exact (qS7 GE101 GE102 GE109 GE115 GE116 GE117 GE133 HB.out)); (case aF => exact (fun k_ hk => ⟨Kd.fresh' (Kd.N_lt qqR) k_ hk, Kd.fresh' (Kd.N_lt qqQ) k_ hk, Kd.freshB (g := gb101) (o := .cells #[.int .i64 a0_0, .int .i64 a0_1, .slice A0_2 l0_2.length c0_2] 24 (0, 0)) (by refine bq ?_; refine blk_far ?_ NB101_133.out _; refine bq ?_; refine blk_far ?_ NB101_133.out _; refine bq ?_; refine blk_far ?_ NB101_133.out _; exact bq BK101.out) k_ hk, Kd.freshB (g := gb102) (o := .cells #[.int .i64 a1_0, .int .i64 a1_1, .slice A1_2 l1_2.length c1_2] 24 (0, 0)) (by refine bq ?_; refine blk_far ?_ NB102_133.out _; refine bq ?_; refine blk_far ?_ NB102_133.out _; refine bq ?_; refine blk_far ?_ NB102_133.out _; exact bq BK102.out) k_ hk, Kd.freshB (g := gb109) (o := .cells #[.int .i64 t104, .int .i64 t105, .slice Ao45 t106.length co45] 24 (0, 0)) (by refine bq ?_; refine blk_far ?_ NB109_133.out _; refine bq ?_; refine blk_far ?_ NB109_133.out _; refine bq ?_; refine blk_far ?_ NB109_133.out _; exact bq BK109.out) k_ hk, Kd.freshB (g := gb115) (o := .cells #[.int .i64 t110, .int .i64 t111, .slice Ao53 t112.length co53] 24 (0, 0)) (by refine bq ?_; refine blk_far ?_ NB115_133.out _; refine bq ?_; refine blk_far ?_ NB115_133.out _; refine bq ?_; refine blk_far ?_ NB115_133.out _; exact bq BK115.out) k_ hk, Kd.freshB (g := gb116) (o := .cells #[.int .i64 t104, .int .i64 (wrap64 (1 + (Int.tmod t105 32767))), .slice Ao45 t106.length co45] 24 (0, 0)) (by refine bq ?_; refine blk_far ?_ NB116_133.out _; refine bq ?_; refine blk_far ?_ NB116_133.out _; refine bq ?_; refine blk_far ?_ NB116_133.out _; exact bq BK116.out) k_ hk, Kd.freshB (g := gb117) (o := .cells #[.int .i64 t104, .int .i64 t105, .slice Ao76 y130.length co76] 24 (0, 0)) (by refine bq ?_; refine blk_far ?_ NB117_133.out _; refine bq ?_; refine blk_far ?_ NB117_133.out _; refine bq ?_; refine blk_far ?_ NB117_133.out _; exact bq BK117.out) k_ hk, Kd.freshB (g := gb133) (o := .cells #[.int .i64 t104, .int .i64 t105, .slice Ao45 t106.length co45] 24 (0, 0)) (by refine bq ?_; refine blk_put (cs := #[.int .i64 t104, .int .i64 t105, .slice none 0 0]) ?_ 2 _ rfl; refine bq ?_; refine blk_put (cs := #[.int .i64 t104, .int .i64 0, .slice none 0 0]) ?_ 1 _ rfl; refine bq ?_; refine blk_put (cs := #[.int .i64 0, .int .i64 0, .slice none 0 0]) ?_ 0 _ rfl; exact bq BK133.out) k_ hk⟩)); (case aO => exact ((Kd.N_nil _ _ _ _ (fun k_ => some k_ ≠ (.slice Ao53 t112.length co53 : Value).ownBlock ∧ some k_ ≠ (.slice Ao76 y130.length co76 : Value).ownBlock ∧ k_ ≠ gb101 ∧ k_ ≠ gb102 ∧ k_ ≠ gb109 ∧ k_ ≠ gb115 ∧ k_ ≠ gb116 ∧ k_ ≠ gb117 ∧ k_ ≠ gb133)))); (case aS => exact (below_size (qS7 GE101 GE102 GE109 GE115 GE116 GE117 GE133 HB.out))); (case aL => have := LMc8.out; omega); intro v135 w88 ho hb hg hat; rw [← Ny134.out] at ho; replace BK101 := Aside0.mk (blk_grown (g := gb101) (o := .cells #[.int .i64 a0_0, .int .i64 a0_1, .slice A0_2 l0_2.length c0_2] 24 (0, 0)) (by refine bq ?_; refine blk_far ?_ NB101_133.out _; refine bq ?_; refine blk_far ?_ NB101_133.out _; refine bq ?_; refine blk_far ?_ NB101_133.out _; exact bq BK101.out) hg qqn); replace BK102 := Aside0.mk (blk_grown (g := gb102) (o := .cells #[.int .i64 a1_0, .int .i64 a1_1, .slice A1_2 l1_2.length c1_2] 24 (0, 0)) (by refine bq ?_; refine blk_far ?_ NB102_133.out _; refine bq ?_; refine blk_far ?_ NB102_133.out _; refine bq ?_; refine blk_far ?_ NB102_133.out _; exact bq BK102.out) hg qqn); replace HO108 := Aside0.mk (Kd.N_afterv (Kd.N_apart_nil (by (with_reducible repeat (first | apply Kd.N_alloc | apply Kd.N_drewN | apply Kd.N_drew)); exact (Kd.N_mono (Kd.N_far (p := ⟨gb133, 2, none⟩) (Kd.N_far (p := ⟨gb133, 1, none⟩) (Kd.N_far (p := ⟨gb133, 0, none⟩) (Kd.N_mono HO108.out (fun k_ hk => (⟨hk, hk.2⟩ : _ ∧ k_ ≠ gb133))) (fun _ hk => hk.2) (.int .i64 t104)) (fun _ hk => hk.2) (.int .i64 t105)) (fun _ hk => hk.2) (.slice Ao45 t106.length co45)) (fun _ h_ => h_.1)))) hg hat); replace BK109 := Aside0.mk (blk_grown (g := gb109) (o := .cells #[.int .i64 t104, .int .i64 t105, .slice Ao45 t106.length co45] 24 (0, 0)) (by refine bq ?_; refine blk_far ?_ NB109_133.out _; refine bq ?_; refine blk_far ?_ NB109_133.out _; refine bq ?_; refine blk_far ?_ NB109_133.out _; exact bq BK109.out) hg qqn); replace HO114 := Aside0.mk (Kd.N_afterv (Kd.N_apart_nil qqR) hg hat); replace BK115 := Aside0.mk (blk_grown (g := gb115) (o := .cells #[.int .i64 t110, .int .i64 t111, .slice Ao53 t112.length co53] 24 (0, 0)) (by refine bq ?_; refine blk_far ?_ NB115_133.out _; refine bq ?_; refine blk_far ?_ NB115_133.out _; refine bq ?_; refine blk_far ?_ NB115_133.out _; exact bq BK115.out) hg qqn); replace BK116 := Aside0.mk (blk_grown (g := gb116) (o := .cells #[.int .i64 t104, .int .i64 (wrap64 (1 + (Int.tmod t105 32767))), .slice Ao45 t106.length co45] 24 (0, 0)) (by refine bq ?_; refine blk_far ?_ NB116_133.out _; refine bq ?_; refine blk_far ?_ NB116_133.out _; refine bq ?_; refine blk_far ?_ NB116_133.out _; exact bq BK116.out) hg qqn); replace BK117 := Aside0.mk (blk_grown (g := gb117) (o := .cells #[.int .i64 t104, .int .i64 t105, .slice Ao76 y130.length co76] 24 (0, 0)) (by refine bq ?_; refine blk_far ?_ NB117_133.out _; refine bq ?_; refine blk_far ?_ NB117_133.out _; refine bq ?_; refine blk_far ?_ NB117_133.out _; exact bq BK117.out) hg qqn); replace HO132 := Aside0.mk (Kd.N_afterv (Kd.N_apart_nil qqQ) hg hat); replace BK133 := Aside0.mk (blk_grown (g := gb133) (o := .cells #[.int .i64 t104, .int .i64 t105, .slice Ao45 t106.length co45] 24 (0, 0)) (by refine bq ?_; refine blk_put (cs := #[.int .i64 t104, .int .i64 t105, .slice none 0 0]) ?_ 2 _ rfl; refine bq ?_; refine blk_put (cs := #[.int .i64 t104, .int .i64 0, .slice none 0 0]) ?_ 1 _ rfl; refine bq ?_; refine blk_put (cs := #[.int .i64 0, .int .i64 0, .slice none 0 0]) ?_ 0 _ rfl; exact bq BK133.out) hg qqn); replace HB := Aside0.mk (hb); have HO136 := Aside0.mk (ho); clear ho hb hg hat; obtain ⟨Ao89, co89, eo89⟩ := Kd.N_slice HO136.out; subst eo89; obtain ⟨hcz90_0, hcz90_1, hcz90_2, hfz90_0, hfz90_1, hfz90_2⟩ := blk3 BK133.out))
  have n0_ : Aside0 (Kd.N (Kd.slice 28 k28) 30 (w88.setCell ⟨gb133, 2, none⟩ (.slice Ao89 y134.length co89)) w.heap.size (fun k_ => some k_ ≠ (.slice Ao53 t112.length co53 : Value).ownBlock ∧ some k_ ≠ (.slice Ao76 y130.length co76 : Value).ownBlock ∧ some k_ ≠ (.slice Ao89 y134.length co89 : Value).ownBlock ∧ k_ ≠ gb101 ∧ k_ ≠ gb102 ∧ k_ ≠ gb109 ∧ k_ ≠ gb115 ∧ k_ ≠ gb116 ∧ k_ ≠ gb117 ∧ k_ ≠ gb133) (.slice Ao45 t106.length co45) t106) := ⟨by (with_reducible repeat (first | apply Kd.N_alloc | apply Kd.N_drewN | apply Kd.N_drew)); exact Kd.N_mono (Kd.N_far (p := ⟨gb133, 2, none⟩) (Kd.N_mono HO108.out (fun k_ hk => (⟨hk, hk.1.2⟩ : _ ∧ k_ ≠ gb133))) (fun _ hk => hk.2) (.slice Ao89 y134.length co89)) (fun _ hk => ⟨hk.1.1.1.1.1, ⟨hk.1.1.1.2, ⟨hk.1.2, ⟨hk.1.1.1.1.2.2.1, ⟨hk.1.1.1.1.2.2.2.1, ⟨hk.1.1.1.1.2.2.2.2.1, ⟨hk.1.1.1.1.2.2.2.2.2.1, ⟨hk.1.1.1.1.2.2.2.2.2.2.1, ⟨hk.1.1.1.1.2.2.2.2.2.2.2, hk.1.1.2⟩⟩⟩⟩⟩⟩⟩⟩⟩)⟩
  have n1_ : Aside0 (Kd.N (Kd.slice 28 k28) 30 (w88.setCell ⟨gb133, 2, none⟩ (.slice Ao89 y134.length co89)) w.heap.size (fun k_ => some k_ ≠ (.slice Ao45 t106.length co45 : Value).ownBlock ∧ some k_ ≠ (.slice Ao76 y130.length co76 : Value).ownBlock ∧ some k_ ≠ (.slice Ao89 y134.length co89 : Value).ownBlock ∧ k_ ≠ gb101 ∧ k_ ≠ gb102 ∧ k_ ≠ gb109 ∧ k_ ≠ gb115 ∧ k_ ≠ gb116 ∧ k_ ≠ gb117 ∧ k_ ≠ gb133) (.slice Ao53 t112.length co53) t112) := ⟨by (with_reducible repeat (first | apply Kd.N_alloc | apply Kd.N_drewN | apply Kd.N_drew)); exact Kd.N_mono (Kd.N_far (p := ⟨gb133, 2, none⟩) (Kd.N_mono HO114.out (fun k_ hk => (⟨hk, hk.1.2⟩ : _ ∧ k_ ≠ gb133))) (fun _ hk => hk.2) (.slice Ao89 y134.length co89)) (fun _ hk => ⟨hk.1.1.1.1.1, ⟨hk.1.1.1.2, ⟨hk.1.2, ⟨hk.1.1.1.1.2.2.1, ⟨hk.1.1.1.1.2.2.2.1, ⟨hk.1.1.1.1.2.2.2.2.1, ⟨hk.1.1.1.1.2.2.2.2.2.1, ⟨hk.1.1.1.1.2.2.2.2.2.2.1, ⟨hk.1.1.1.1.2.2.2.2.2.2.2, hk.1.1.2⟩⟩⟩⟩⟩⟩⟩⟩⟩)⟩
  have n2_ : Aside0 (Kd.N (Kd.slice 28 k28) 30 (w88.setCell ⟨gb133, 2, none⟩ (.slice Ao89 y134.length co89)) w.heap.size (fun k_ => some k_ ≠ (.slice Ao53 t112.length co53 : Value).ownBlock ∧ some k_ ≠ (.slice Ao89 y134.length co89 : Value).ownBlock ∧ k_ ≠ gb101 ∧ k_ ≠ gb102 ∧ k_ ≠ gb109 ∧ k_ ≠ gb115 ∧ k_ ≠ gb116 ∧ k_ ≠ gb117 ∧ k_ ≠ gb133) (.slice Ao76 y130.length co76) y130) := ⟨by (with_reducible repeat (first | apply Kd.N_alloc | apply Kd.N_drewN | apply Kd.N_drew)); exact Kd.N_mono (Kd.N_far (p := ⟨gb133, 2, none⟩) (Kd.N_mono HO132.out (fun k_ hk => (⟨hk, hk.1.2⟩ : _ ∧ k_ ≠ gb133))) (fun _ hk => hk.2) (.slice Ao89 y134.length co89)) (fun _ hk => ⟨hk.1.1.1.1, ⟨hk.1.2, ⟨hk.1.1.1.2.1, ⟨hk.1.1.1.2.2.1, ⟨hk.1.1.1.2.2.2.1, ⟨hk.1.1.1.2.2.2.2.1, ⟨hk.1.1.1.2.2.2.2.2.1, ⟨hk.1.1.1.2.2.2.2.2.2, hk.1.1.2⟩⟩⟩⟩⟩⟩⟩⟩)⟩
  have n3_ : Aside0 (Kd.N (Kd.slice 28 k28) 30 (w88.setCell ⟨gb133, 2, none⟩ (.slice Ao89 y134.length co89)) w.heap.size (fun k_ => some k_ ≠ (.slice Ao53 t112.length co53 : Value).ownBlock ∧ some k_ ≠ (.slice Ao76 y130.length co76 : Value).ownBlock ∧ k_ ≠ gb101 ∧ k_ ≠ gb102 ∧ k_ ≠ gb109 ∧ k_ ≠ gb115 ∧ k_ ≠ gb116 ∧ k_ ≠ gb117 ∧ k_ ≠ gb133) (.slice Ao89 y134.length co89) y134) := ⟨by (with_reducible repeat (first | apply Kd.N_alloc | apply Kd.N_drewN | apply Kd.N_drew)); exact Kd.N_mono (Kd.N_far (p := ⟨gb133, 2, none⟩) (Kd.N_mono HO136.out (fun k_ hk => (⟨hk, hk.2.2.2.2.2.2.2.2⟩ : _ ∧ k_ ≠ gb133))) (fun _ hk => hk.2) (.slice Ao89 y134.length co89)) (fun _ hk => ⟨hk.1.1, ⟨hk.1.2.1, ⟨hk.1.2.2.1, ⟨hk.1.2.2.2.1, ⟨hk.1.2.2.2.2.1, ⟨hk.1.2.2.2.2.2.1, ⟨hk.1.2.2.2.2.2.2.1, ⟨hk.1.2.2.2.2.2.2.2.1, hk.1.2.2.2.2.2.2.2.2⟩⟩⟩⟩⟩⟩⟩⟩)⟩
  have n4_ : Aside0 ((w88.setCell ⟨gb133, 2, none⟩ (.slice Ao89 y134.length co89)).heap[gb101]? = some (.cells #[.int .i64 a0_0, .int .i64 a0_1, .slice A0_2 l0_2.length c0_2] 24 (0, 0))) := ⟨by (with_reducible repeat (first | refine blk_drewN ?_ _ | refine blk_drew ?_ | refine blk_alloc ?_ _)); refine blk_far ?_ NB101_133.out _; (with_reducible repeat (first | refine blk_drewN ?_ _ | refine blk_drew ?_ | refine blk_alloc ?_ _)); exact BK101.out⟩
  have n5_ : Aside0 ((w88.setCell ⟨gb133, 2, none⟩ (.slice Ao89 y134.length co89)).heap[gb102]? = some (.cells #[.int .i64 a1_0, .int .i64 a1_1, .slice A1_2 l1_2.length c1_2] 24 (0, 0))) := ⟨by (with_reducible repeat (first | refine blk_drewN ?_ _ | refine blk_drew ?_ | refine blk_alloc ?_ _)); refine blk_far ?_ NB102_133.out _; (with_reducible repeat (first | refine blk_drewN ?_ _ | refine blk_drew ?_ | refine blk_alloc ?_ _)); exact BK102.out⟩
  have n6_ : Aside0 ((w88.setCell ⟨gb133, 2, none⟩ (.slice Ao89 y134.length co89)).heap[gb109]? = some (.cells #[.int .i64 t104, .int .i64 t105, .slice Ao45 t106.length co45] 24 (0, 0))) := ⟨by (with_reducible repeat (first | refine blk_drewN ?_ _ | refine blk_drew ?_ | refine blk_alloc ?_ _)); refine blk_far ?_ NB109_133.out _; (with_reducible repeat (first | refine blk_drewN ?_ _ | refine blk_drew ?_ | refine blk_alloc ?_ _)); exact BK109.out⟩
  have n7_ : Aside0 ((w88.setCell ⟨gb133, 2, none⟩ (.slice Ao89 y134.length co89)).heap[gb115]? = some (.cells #[.int .i64 t110, .int .i64 t111, .slice Ao53 t112.length co53] 24 (0, 0))) := ⟨by (with_reducible repeat (first | refine blk_drewN ?_ _ | refine blk_drew ?_ | refine blk_alloc ?_ _)); refine blk_far ?_ NB115_133.out _; (with_reducible repeat (first | refine blk_drewN ?_ _ | refine blk_drew ?_ | refine blk_alloc ?_ _)); exact BK115.out⟩
  have n8_ : Aside0 ((w88.setCell ⟨gb133, 2, none⟩ (.slice Ao89 y134.length co89)).heap[gb116]? = some (.cells #[.int .i64 t104, .int .i64 (wrap64 (1 + (Int.tmod t105 32767))), .slice Ao45 t106.length co45] 24 (0, 0))) := ⟨by (with_reducible repeat (first | refine blk_drewN ?_ _ | refine blk_drew ?_ | refine blk_alloc ?_ _)); refine blk_far ?_ NB116_133.out _; (with_reducible repeat (first | refine blk_drewN ?_ _ | refine blk_drew ?_ | refine blk_alloc ?_ _)); exact BK116.out⟩
  have n9_ : Aside0 ((w88.setCell ⟨gb133, 2, none⟩ (.slice Ao89 y134.length co89)).heap[gb117]? = some (.cells #[.int .i64 t104, .int .i64 t105, .slice Ao76 y130.length co76] 24 (0, 0))) := ⟨by (with_reducible repeat (first | refine blk_drewN ?_ _ | refine blk_drew ?_ | refine blk_alloc ?_ _)); refine blk_far ?_ NB117_133.out _; (with_reducible repeat (first | refine blk_drewN ?_ _ | refine blk_drew ?_ | refine blk_alloc ?_ _)); exact BK117.out⟩
  have n10_ : Aside0 ((w88.setCell ⟨gb133, 2, none⟩ (.slice Ao89 y134.length co89)).heap[gb133]? = some (.cells #[.int .i64 t104, .int .i64 t105, .slice Ao89 y134.length co89] 24 (0, 0))) := ⟨by (with_reducible repeat (first | refine blk_drewN ?_ _ | refine blk_drew ?_ | refine blk_alloc ?_ _)); refine blk_put (cs := #[.int .i64 t104, .int .i64 t105, .slice Ao45 t106.length co45]) ?_ 2 _ rfl; (with_reducible repeat (first | refine blk_drewN ?_ _ | refine blk_drew ?_ | refine blk_alloc ?_ _)); exact BK133.out⟩
  have n11_ : Aside0 (Below w.heap.size w (w88.setCell ⟨gb133, 2, none⟩ (.slice Ao89 y134.length co89))) := ⟨qS7 GE101 GE102 GE109 GE115 GE116 GE117 GE133 HB.out⟩
  (try clear HO108)
  (try clear HO114)
  (try clear HO132)
  (try clear HO136)
  (try clear BK101)
  (try clear BK102)
  (try clear BK109)
  (try clear BK115)
  (try clear BK116)
  (try clear BK117)
  (try clear BK133)
  (try clear HB)
  generalize (w88.setCell ⟨gb133, 2, none⟩ (.slice Ao89 y134.length co89)) = w91 at n0_ n1_ n2_ n3_ n4_ n5_ n6_ n7_ n8_ n9_ n10_ n11_ ⊢
  have HO108 := n0_
  have HO114 := n1_
  have HO132 := n2_
  have HO136 := n3_
  have BK101 := n4_
  have BK102 := n5_
  have BK109 := n6_
  have BK115 := n7_
  have BK116 := n8_
  have BK117 := n9_
  have BK133 := n10_
  have HB := n11_
  clear n0_ n1_ n2_ n3_ n4_ n5_ n6_ n7_ n8_ n9_ n10_ n11_
  replace HO108 := Aside0.mk (Kd.N_drew HO108.out)
  replace HO114 := Aside0.mk (Kd.N_drew HO114.out)
  replace HO132 := Aside0.mk (Kd.N_drew HO132.out)
  replace HO136 := Aside0.mk (Kd.N_drew HO136.out)
  replace BK101 := Aside0.mk (blk_drew BK101.out)
  replace BK102 := Aside0.mk (blk_drew BK102.out)
  replace BK109 := Aside0.mk (blk_drew BK109.out)
  replace BK115 := Aside0.mk (blk_drew BK115.out)
  replace BK116 := Aside0.mk (blk_drew BK116.out)
  replace BK117 := Aside0.mk (blk_drew BK117.out)
  replace BK133 := Aside0.mk (blk_drew BK133.out)
  replace HB := Aside0.mk (below_drew1 HB.out)
  have p137 : 0 ≤ ((ji12) : Int) := of_decide_eq_true qq4
  have q137 : (ji12) < (t106.length : Int) := of_decide_eq_true qq4
  obtain ⟨ad137, A137_0, c137_0, e137, hx137_0, hl137_0, hi137_0⟩ := at_L3 (Kd.N_reads' HO108.out).2.2 (ji12) p137 q137
  cases e137
  obtain ⟨ce137, hce137, hMe137, hcc137⟩ := Kd.N_get HO108.out [] (ji12) p137 (by first | exact q137 | exact of_decide_eq_true qq4 | (have e_ := (Kd.N_reads' HO108.out).1; omega))
  obtain ⟨ua137_0, uc137_0, rfl, ul137_0, ge137_0⟩ := Kd.FK_slice_open hMe137
  have hv137_0 := hcc137 0 _ rfl
  rw [Nat.add_zero, show ((Kd.slice 28 k28)).sz = 1 from rfl, Nat.mul_one] at hv137_0
  replace hv137_0 := Option.some.inj (hv137_0.symm.trans hx137_0)
  injection hv137_0 with hva_ hvn_ hvc_
  rw [hva_] at ge137_0
  rw [hvc_] at ul137_0
  have HL137_0 := Aside0.mk (show Kd.V k28 28 _ w.heap.size _ _ (rd_L3 t106 (ji12)) from Kd.V_mk ul137_0 ge137_0)
  clear hva_ hvn_ hvc_ ge137_0 ul137_0
  clear hcc137 hce137
  have HR137_0 := Aside0.mk hi137_0
  have HC137_0 := Aside0.mk hl137_0
  clear hi137_0 hl137_0
  replace p137 := eq_true p137
  replace q137 := eq_true q137
  refine start_ (n := 11) (S := fun w' => w'.cell? ⟨gb133, 0, none⟩ = some (.int .i64 t104) ∧ w'.cell? ⟨gb133, 1, none⟩ = some (.int .i64 t105) ∧ w'.cell? ⟨gb133, 2, none⟩ = some (.slice Ao89 y134.length co89) ∧ w'.cell? ⟨gb109, 0, none⟩ = some (.int .i64 t104) ∧ w'.cell? ⟨gb109, 1, none⟩ = some (.int .i64 t105) ∧ w'.cell? ⟨gb109, 2, none⟩ = some (.slice (some ad137) t106.length co45) ∧ w'.cell? (ad137.add ((ji12)).toNat) = some (.slice A137_0 (rd_L3 t106 (ji12)).length c137_0)) (ds := [10]) #[false, false, false, false, false, false, false, false, false, false, false] (by kernel_rfl) rfl rfl ⟨(blk_cell BK133.out 0).trans rfl, (blk_cell BK133.out 1).trans rfl, (blk_cell BK133.out 2).trans rfl, (blk_cell BK109.out 0).trans rfl, (blk_cell BK109.out 1).trans rfl, (blk_cell BK109.out 2).trans rfl, hx137_0⟩ (fun hHeld => ?_); refine with_tabW partitalaw16_SmfSame.tab13 partitalaw16_SmfSame.bits13 (fun HT_ HW_ => ?_)
  generalize w91.drew = w92 at HO108 HO114 HO132 HO136 BK101 BK102 BK109 BK115 BK116 BK117 BK133 HB HL137_0 HR137_0 hx137_0 hHeld ⊢
  refine pureS 0 (some 47) (bs 1 11) ?_
  refine pureS 2 (some 49) (bs 5 11) ?_
  refine pureS 3 (some 50) (bs 13 11) ?_
  refine pureS 5 (some 52) (bs 45 11) ?_
  refine take_ (i := 1) (N := some 48) (v := ?_) (a' := ?_) (bs 47 11) rfl rfl (take_ofW HT_.out HW_.out (by kernel_rfl)) (fun _ _ _ h => h) (Or.inl ⟨by rfl, ?_⟩) hHeld ?_ ?_
  rotate_left
  · rintro w' ⟨s0, s1, s2, s3, s4, s5, s6⟩
    go_simp
    with_reducible rfl
  rotate_left
  · simp only [Act.put, List.setIfInBounds_toArray, List.set_cons_zero, List.set_cons_succ, i64_w, i32_w]
    rfl
  refine take_ (i := 4) (N := some 51) (v := ?_) (a' := ?_) (bs 63 11) rfl rfl (take_ofW HT_.out HW_.out (by kernel_rfl)) (fun _ _ _ h => h) (Or.inl ⟨by rfl, ?_⟩) hHeld ?_ ?_
  rotate_left
  · rintro w' ⟨s0, s1, s2, s3, s4, s5, s6⟩
    go_simp
    with_reducible rfl
  rotate_left
  · simp only [Act.put, List.setIfInBounds_toArray, List.set_cons_zero, List.set_cons_succ, i64_w, i32_w]
    rfl
  refine pureS 6 (some 53) (bs 127 11) ?_
  refine take_ (i := 7) (N := some 54) (v := ?_) (a' := ?_) (bs 255 11) rfl rfl (take_ofW HT_.out HW_.out (by kernel_rfl)) (fun _ _ _ h => h) (Or.inl ⟨by rfl, ?_⟩) hHeld ?_ ?_
  rotate_left
  · rintro w' ⟨s0, s1, s2, s3, s4, s5, s6⟩
    go_simp
    with_reducible rfl
  rotate_left
  · simp only [Act.put, List.setIfInBounds_toArray, List.set_cons_zero, List.set_cons_succ, i64_w, i32_w]
    rfl
  refine one_ (i := 8) (N := some 55) (bs 511 11) rfl rfl (one_of HT_.out (by kernel_rfl)) (by decide) (fun K hK => ?_)
  refine Kd.R_append_rows_step k28 (w0 := w) w.heap.size rfl (.const (.slice none 0 0)) (.tmp 54) 30 28 (.agg #[(.int .i64 0), (.int .i64 0), (.int .i64 0), (.int .i64 0), (.int .i64 0), (.string ⟨#[]⟩)]) 56 rfl Try.underlying30 info28 rfl (by decide) (by omega) (.slice none 0 0) ([] : List (S28)) (rd_L3 t106 (ji12)) _ _ _ (fun _ => True) (fun _ => False) rfl rfl ?aO ?aR (fun _ _ h => h) (fun _ h => h.elim) ?aF ?aB ?aS ?aL ?_
  (case aR => repeat (first | exact (by repeat (first | (with_reducible exact HR137_0.out) | (with_reducible refine Kd.C_alloc ?_ _) | (with_reducible refine Kd.C_drewN ?_ _) | (with_reducible refine Kd.C_drew ?_) | exact HR137_0.out)) | (with_reducible refine Kd.C_alloc ?_ _) | (with_reducible refine Kd.C_drewN ?_ _) | (with_reducible refine Kd.C_drew ?_)))
  (case aB => exact (qS7 GE101 GE102 GE109 GE115 GE116 GE117 GE133 HB.out))
  (case aF => exact (fun _ _ => trivial))
  (case aO => exact ((Kd.R_nil _ _ _ _ (fun _ => True))))
  (case aS => exact (below_size (qS7 GE101 GE102 GE109 GE115 GE116 GE117 GE133 HB.out)))
  (case aL => have := LMc15.out; omega)
  intro v139 w93 ho hb hg hat
  have HS6_ := cell_grown hg (hHeld.2.2.2.2.2.2) qqn
  rw [← Ny138.out] at ho
  replace BK101 := Aside0.mk (blk_grown (bq BK101.out) hg qqn)
  replace BK102 := Aside0.mk (blk_grown (bq BK102.out) hg qqn)
  replace HO108 := Aside0.mk (Kd.N_afterv (Kd.N_apart_nil (qN HO108.out)) hg hat)
  replace BK109 := Aside0.mk (blk_grown (bq BK109.out) hg qqn)
  replace HO114 := Aside0.mk (Kd.N_afterv (Kd.N_apart_nil (qN HO114.out)) hg hat)
  replace BK115 := Aside0.mk (blk_grown (bq BK115.out) hg qqn)
  replace BK116 := Aside0.mk (blk_grown (g := gb116) (o := .cells #[.int .i64 t104, .int .i64 (wrap64 (1 + (Int.tmod t105 32767))), .slice (some ad137) t106.length co45] 24 (0, 0)) (bq BK116.out) hg qqn)
  replace BK117 := Aside0.mk (blk_grown (bq BK117.out) hg qqn)
  replace HO132 := Aside0.mk (Kd.N_afterv (Kd.N_apart_nil (qN HO132.out)) hg hat)
  replace BK133 := Aside0.mk (blk_grown (bq BK133.out) hg qqn)
  replace HO136 := Aside0.mk (Kd.N_afterv (Kd.N_apart_nil (qN HO136.out)) hg hat)
  replace HL137_0 := Aside0.mk (Kd.V_afterv (Kd.V_apart_nil (qV HL137_0.out)) hg hat)
  replace HB := Aside0.mk (hb)
  have HO140 := Aside0.mk (ho)
  clear ho hb hg hat
  have p17 : 0 ≤ ((ji12) : Int) := of_decide_eq_true qq4
  have q17 : ((ji12) : Int) < ((y134.length : Int) : Int) := of_decide_eq_true qq4
  obtain ⟨go17, co17, eo17, gb17, gl17, cl17, HG17⟩ := Kd.N_form HO136.out (by omega)
  (first | cases eo17 | (injection eo17 with ea_ en_ ec_; (first | subst ea_ | (injection ea_ with ea_; subst ea_)); subst ec_; clear en_))
  have GB17 := Aside0.mk gb17
  have GG17 := Aside0.mk HG17
  clear gb17 gl17 HG17
  obtain ⟨ce17, hcl17, hM17, hcc17, hfr17⟩ := Kd.N_elem HO136.out [] ((ji12) : Int) p17 q17
  obtain ⟨ua17_0, uc17_0, rfl, ul17_0, ge17_0⟩ := Kd.FK_slice_open hM17
  have hx17_0 := hcc17 0 _ rfl
  have hf17_0 := hfr17 0
  (try simp only [show ((Kd.slice 28 k28)).sz = 1 from rfl, Nat.mul_one, Nat.add_zero] at hx17_0)
  (try simp only [show ((Kd.slice 28 k28)).sz = 1 from rfl, Nat.mul_one, Nat.add_zero] at hf17_0)
  clear hcl17 hcc17 hfr17 hM17
  replace p17 := eq_true p17
  replace q17 := eq_true q17
  have lt_ : (rd_L3 y141 (ji12)) = y138 := by rw [Ny141.out]; exact rd_set3 y134 (ji12) y138 (of_eq_true p17) (of_eq_true q17)
  have ja_ : 0 ≤ (ji19) := of_decide_eq_true c20b0
  have jb_ : (ji19) < (y138.length : Int) := by have h_ := of_decide_eq_true c21b0; rw [lt_] at h_; exact h_
  obtain ⟨gB, cB, eB, gbB, glB, clB, HGB⟩ := Kd.R_form HO140.out (by omega)
  have hoB : (v139 : Value).ownBlock = some gB := by rw [eB]; rfl
  have HRB := HO140.out
  rw [eB] at HRB
  obtain ⟨ceB, hclB, hMB, hccB, hfrB⟩ := Kd.R_elem HRB z28 (ji19) ja_ jb_
  have hceB := k28_openM hMB
  change ceB = _ at hceB
  have HSB := (Kd.R_seg HRB (ji19) ja_ jb_ (seg := [.int .i64 5000]) (j := 0) (okp := fun _ => False) (x' := { rd_T28 y138 (ji19) with f0 := 5000 }) hclB hccB (show 0 + 1 ≤ 6 from by decide) (by rw [hceB]; exact k28_mkM _ _ _ _) (fun _ h => h.elim)).1
  have HO140b : Aside0 (Kd.R k28 28 (w93.setCell ⟨gB, (ji19).toNat * 6, none⟩ (.int .i64 5000)) w.heap.size (fun _ => True) v139 (row5 y138 (ji19))) := ⟨by rw [eB]; exact HSB⟩
  have hfar : ∀ k_, some k_ ≠ (v139 : Value).ownBlock → k_ ≠ gB := fun k_ h_ e_ => h_ (by rw [hoB, e_])
  have BK101b := Aside0.mk (blk_far (p := ⟨gB, (ji19).toNat * 6, none⟩) BK101.out (hfar _ (Kd.R_ne HO140.out BK101.out (by decide))) (.int .i64 5000))
  have BK102b := Aside0.mk (blk_far (p := ⟨gB, (ji19).toNat * 6, none⟩) BK102.out (hfar _ (Kd.R_ne HO140.out BK102.out (by decide))) (.int .i64 5000))
  have HO108b := Aside0.mk (Kd.N_far (p := ⟨gB, (ji19).toNat * 6, none⟩) HO108.out (fun k_ hk => hfar k_ hk.2) (.int .i64 5000))
  have BK109b := Aside0.mk (blk_far (p := ⟨gB, (ji19).toNat * 6, none⟩) BK109.out (hfar _ (Kd.R_ne HO140.out BK109.out (by decide))) (.int .i64 5000))
  have HO114b := Aside0.mk (Kd.N_far (p := ⟨gB, (ji19).toNat * 6, none⟩) HO114.out (fun k_ hk => hfar k_ hk.2) (.int .i64 5000))
  have BK115b := Aside0.mk (blk_far (p := ⟨gB, (ji19).toNat * 6, none⟩) BK115.out (hfar _ (Kd.R_ne HO140.out BK115.out (by decide))) (.int .i64 5000))
  have BK116b := Aside0.mk (blk_far (p := ⟨gB, (ji19).toNat * 6, none⟩) BK116.out (hfar _ (Kd.R_ne HO140.out BK116.out (by decide))) (.int .i64 5000))
  have BK117b := Aside0.mk (blk_far (p := ⟨gB, (ji19).toNat * 6, none⟩) BK117.out (hfar _ (Kd.R_ne HO140.out BK117.out (by decide))) (.int .i64 5000))
  have HO132b := Aside0.mk (Kd.N_far (p := ⟨gB, (ji19).toNat * 6, none⟩) HO132.out (fun k_ hk => hfar k_ hk.2) (.int .i64 5000))
  have BK133b := Aside0.mk (blk_far (p := ⟨gB, (ji19).toNat * 6, none⟩) BK133.out (hfar _ (Kd.R_ne HO140.out BK133.out (by decide))) (.int .i64 5000))
  have HO136b := Aside0.mk (Kd.N_far (p := ⟨gB, (ji19).toNat * 6, none⟩) HO136.out (fun k_ hk => hfar k_ hk.2) (.int .i64 5000))
  have HBb := Aside0.mk (show Below w.heap.size w (w93.setCell ⟨gB, (ji19).toNat * 6, none⟩ (.int .i64 5000)) from below_set HB.out gbB)
  obtain ⟨wB, hwB⟩ : ∃ W_ : World, W_ = w93.setCell ⟨gB, (ji19).toNat * 6, none⟩ (.int .i64 5000) := ⟨_, rfl⟩
  rw [← hwB] at HO140b BK101b BK102b HO108b BK109b HO114b BK115b BK116b BK117b HO132b BK133b HO136b HBb
  have HX94b := Aside0.mk (show Kd.N (Kd.slice 28 k28) 30 _ w.heap.size (fun k_ => some k_ ≠ (.slice Ao53 t112.length co53 : Value).ownBlock ∧ some k_ ≠ (.slice Ao76 y130.length co76 : Value).ownBlock ∧ some k_ ≠ (v139 : Value).ownBlock ∧ k_ ≠ gb101 ∧ k_ ≠ gb102 ∧ k_ ≠ gb109 ∧ k_ ≠ gb115 ∧ k_ ≠ gb116 ∧ k_ ≠ gb117 ∧ k_ ≠ gb133) (.slice (some ⟨go17, 0, none⟩) y134.length co89) y134 from (Kd.N_mono (HO136b.out) (fun k_ hk => ⟨hk.1.1, ⟨hk.1.2.1, ⟨hk.2, ⟨hk.1.2.2.1, ⟨hk.1.2.2.2.1, ⟨hk.1.2.2.2.2.1, ⟨hk.1.2.2.2.2.2.1, ⟨hk.1.2.2.2.2.2.2.1, ⟨hk.1.2.2.2.2.2.2.2.1, hk.1.2.2.2.2.2.2.2.2⟩⟩⟩⟩⟩⟩⟩⟩⟩)))
  replace HX94b := Aside0.mk (show Kd.N (Kd.slice 28 k28) 30 _ w.heap.size (fun k_ => some k_ ≠ (.slice Ao53 t112.length co53 : Value).ownBlock ∧ some k_ ≠ (.slice Ao76 y130.length co76 : Value).ownBlock ∧ k_ ≠ gb101 ∧ k_ ≠ gb102 ∧ k_ ≠ gb109 ∧ k_ ≠ gb115 ∧ k_ ≠ gb116 ∧ k_ ≠ gb117 ∧ k_ ≠ gb133) (.slice (some ⟨go17, 0, none⟩) y134.length co89) y134 from Kd.N_mono HX94b.out (fun k_ hk => ⟨hk.1, ⟨hk.2.1, ⟨hk.2.2.2.1, ⟨hk.2.2.2.2.1, ⟨hk.2.2.2.2.2.1, ⟨hk.2.2.2.2.2.2.1, ⟨hk.2.2.2.2.2.2.2.1, ⟨hk.2.2.2.2.2.2.2.2.1, hk.2.2.2.2.2.2.2.2.2⟩⟩⟩⟩⟩⟩⟩⟩))
  obtain ⟨ce94b, hcl94b, hM94b, hcc94b, hfr94b⟩ := Kd.N_elem HX94b.out [] ((ji12) : Int) (of_decide_eq_true qq4) qq1j
  obtain ⟨ua94_0b, uc94_0b, rfl, ul94_0b, ge94_0b⟩ := Kd.FK_slice_open hM94b
  obtain ⟨Ao1b_, co1b_, eo1b_⟩ := Kd.R_slice HO140b.out
  have hz1b_ := (Kd.R_types (Kd.R_types (Kd.R_types (Kd.R_types (Kd.R_types (Kd.R_types (Kd.R_types (Kd.R_apart' (Kd.R_apart' (Kd.R_apart' (HO140b.out) (Kd.N_typed HO114b.out) (by decide)) (Kd.N_typed HO132b.out) (by decide)) (Kd.N_typed HO136b.out) (by decide)) BK101b.out (by decide)) BK102b.out (by decide)) BK109b.out (by decide)) BK115b.out (by decide)) BK116b.out (by decide)) BK117b.out (by decide)) BK133b.out (by decide))
  rw [eo1b_] at hz1b_
  have HP94b := (Kd.N_seg HX94b.out ((ji12) : Int) (of_decide_eq_true qq4) qq1j (seg := [v139]) (j := 0) hcl94b hcc94b (show 1 ≤ 1 from by decide) (x' := (row5 y138 (ji19))) (by rw [eo1b_]; exact (Kd.FK_slice_mk (Kd.R_reads' (Kd.R_mono (ok' := (fun k_ => ((fun k_ => some k_ ≠ (.slice Ao53 t112.length co53 : Value).ownBlock ∧ some k_ ≠ (.slice Ao76 y130.length co76 : Value).ownBlock ∧ k_ ≠ gb101 ∧ k_ ≠ gb102 ∧ k_ ≠ gb109 ∧ k_ ≠ gb115 ∧ k_ ≠ gb116 ∧ k_ ≠ gb117 ∧ k_ ≠ gb133)) k_ ∧ k_ ≠ go17)) hz1b_ (fun k_ hk => ⟨⟨hk.1.1.1.1.1.1.1.1.1.2, ⟨hk.1.1.1.1.1.1.1.1.2, ⟨hk.1.1.1.1.1.1.2, ⟨hk.1.1.1.1.1.2, ⟨hk.1.1.1.1.2, ⟨hk.1.1.1.2, ⟨hk.1.1.2, ⟨hk.1.2, hk.2⟩⟩⟩⟩⟩⟩⟩⟩, fun e_ => (hk.1.1.1.1.1.1.1.2) qqu⟩))).2.1 (Kd.R_F (Kd.R_mono (ok' := (fun k_ => ((fun k_ => some k_ ≠ (.slice Ao53 t112.length co53 : Value).ownBlock ∧ some k_ ≠ (.slice Ao76 y130.length co76 : Value).ownBlock ∧ k_ ≠ gb101 ∧ k_ ≠ gb102 ∧ k_ ≠ gb109 ∧ k_ ≠ gb115 ∧ k_ ≠ gb116 ∧ k_ ≠ gb117 ∧ k_ ≠ gb133)) k_ ∧ k_ ≠ go17)) hz1b_ (fun k_ hk => ⟨⟨hk.1.1.1.1.1.1.1.1.1.2, ⟨hk.1.1.1.1.1.1.1.1.2, ⟨hk.1.1.1.1.1.1.2, ⟨hk.1.1.1.1.1.2, ⟨hk.1.1.1.1.2, ⟨hk.1.1.1.2, ⟨hk.1.1.2, ⟨hk.1.2, hk.2⟩⟩⟩⟩⟩⟩⟩⟩, fun e_ => (hk.1.1.1.1.1.1.1.2) qqu⟩))))) (fun _ hk => hk)).1
  (try simp only [show ((Kd.slice 28 k28)).sz = 1 from rfl, Nat.mul_one, Nat.add_zero] at HP94b)
  have HQ94b := Aside0.mk HP94b
  clear hcl94b hcc94b hfr94b hM94b HP94b
  have m0_ : Aside0 (Kd.N (Kd.slice 28 k28) 30 (wB.setCell ⟨go17, ((ji12) : Int).toNat, none⟩ (v139)) w.heap.size (fun k_ => some k_ ≠ (.slice Ao53 t112.length co53 : Value).ownBlock ∧ some k_ ≠ (.slice Ao76 y130.length co76 : Value).ownBlock ∧ some k_ ≠ (.slice (some ⟨go17, 0, none⟩) y134.length co89 : Value).ownBlock ∧ k_ ≠ gb101 ∧ k_ ≠ gb102 ∧ k_ ≠ gb109 ∧ k_ ≠ gb115 ∧ k_ ≠ gb116 ∧ k_ ≠ gb117 ∧ k_ ≠ gb133) (.slice (some ad137) t106.length co45) t106) := ⟨by (with_reducible repeat (first | apply Kd.N_alloc | apply Kd.N_drewN | apply Kd.N_drew)); exact Kd.N_mono (Kd.N_far (p := ⟨go17, ((ji12) : Int).toNat, none⟩) (Kd.N_mono HO108b.out (fun k_ hk => (⟨hk, fun e_ => hk.1.2.2.1 qqu⟩ : _ ∧ k_ ≠ go17))) (fun _ hk => hk.2) (v139)) (fun _ hk => ⟨hk.1.1.1, ⟨hk.1.1.2.1, ⟨hk.1.1.2.2.1, ⟨hk.1.1.2.2.2.1, ⟨hk.1.1.2.2.2.2.1, ⟨hk.1.1.2.2.2.2.2.1, ⟨hk.1.1.2.2.2.2.2.2.1, ⟨hk.1.1.2.2.2.2.2.2.2.1, ⟨hk.1.1.2.2.2.2.2.2.2.2.1, hk.1.1.2.2.2.2.2.2.2.2.2⟩⟩⟩⟩⟩⟩⟩⟩⟩)⟩
  have m1_ : Aside0 (Kd.N (Kd.slice 28 k28) 30 (wB.setCell ⟨go17, ((ji12) : Int).toNat, none⟩ (v139)) w.heap.size (fun k_ => some k_ ≠ (.slice (some ad137) t106.length co45 : Value).ownBlock ∧ some k_ ≠ (.slice Ao76 y130.length co76 : Value).ownBlock ∧ some k_ ≠ (.slice (some ⟨go17, 0, none⟩) y134.length co89 : Value).ownBlock ∧ k_ ≠ gb101 ∧ k_ ≠ gb102 ∧ k_ ≠ gb109 ∧ k_ ≠ gb115 ∧ k_ ≠ gb116 ∧ k_ ≠ gb117 ∧ k_ ≠ gb133) (.slice Ao53 t112.length co53) t112) := ⟨by (with_reducible repeat (first | apply Kd.N_alloc | apply Kd.N_drewN | apply Kd.N_drew)); exact Kd.N_mono (Kd.N_far (p := ⟨go17, ((ji12) : Int).toNat, none⟩) (Kd.N_mono HO114b.out (fun k_ hk => (⟨hk, fun e_ => hk.1.2.2.1 qqu⟩ : _ ∧ k_ ≠ go17))) (fun _ hk => hk.2) (v139)) (fun _ hk => ⟨hk.1.1.1, ⟨hk.1.1.2.1, ⟨hk.1.1.2.2.1, ⟨hk.1.1.2.2.2.1, ⟨hk.1.1.2.2.2.2.1, ⟨hk.1.1.2.2.2.2.2.1, ⟨hk.1.1.2.2.2.2.2.2.1, ⟨hk.1.1.2.2.2.2.2.2.2.1, ⟨hk.1.1.2.2.2.2.2.2.2.2.1, hk.1.1.2.2.2.2.2.2.2.2.2⟩⟩⟩⟩⟩⟩⟩⟩⟩)⟩
  have m2_ : Aside0 (Kd.N (Kd.slice 28 k28) 30 (wB.setCell ⟨go17, ((ji12) : Int).toNat, none⟩ (v139)) w.heap.size (fun k_ => some k_ ≠ (.slice Ao53 t112.length co53 : Value).ownBlock ∧ some k_ ≠ (.slice (some ⟨go17, 0, none⟩) y134.length co89 : Value).ownBlock ∧ k_ ≠ gb101 ∧ k_ ≠ gb102 ∧ k_ ≠ gb109 ∧ k_ ≠ gb115 ∧ k_ ≠ gb116 ∧ k_ ≠ gb117 ∧ k_ ≠ gb133) (.slice Ao76 y130.length co76) y130) := ⟨by (with_reducible repeat (first | apply Kd.N_alloc | apply Kd.N_drewN | apply Kd.N_drew)); exact Kd.N_mono (Kd.N_far (p := ⟨go17, ((ji12) : Int).toNat, none⟩) (Kd.N_mono HO132b.out (fun k_ hk => (⟨hk, fun e_ => hk.1.2.1 qqu⟩ : _ ∧ k_ ≠ go17))) (fun _ hk => hk.2) (v139)) (fun _ hk => ⟨hk.1.1.1, ⟨hk.1.1.2.1, ⟨hk.1.1.2.2.1, ⟨hk.1.1.2.2.2.1, ⟨hk.1.1.2.2.2.2.1, ⟨hk.1.1.2.2.2.2.2.1, ⟨hk.1.1.2.2.2.2.2.2.1, ⟨hk.1.1.2.2.2.2.2.2.2.1, hk.1.1.2.2.2.2.2.2.2.2⟩⟩⟩⟩⟩⟩⟩⟩)⟩
  have m3_ : Aside0 (Kd.N (Kd.slice 28 k28) 30 (wB.setCell ⟨go17, ((ji12) : Int).toNat, none⟩ (v139)) w.heap.size (fun k_ => some k_ ≠ (.slice Ao53 t112.length co53 : Value).ownBlock ∧ some k_ ≠ (.slice Ao76 y130.length co76 : Value).ownBlock ∧ k_ ≠ gb101 ∧ k_ ≠ gb102 ∧ k_ ≠ gb109 ∧ k_ ≠ gb115 ∧ k_ ≠ gb116 ∧ k_ ≠ gb117 ∧ k_ ≠ gb133) (.slice (some ⟨go17, 0, none⟩) y134.length co89) (y134.set ((ji12) : Int).toNat (row5 y138 (ji19)))) := ⟨qN HQ94b.out⟩
  have m5_ : Aside0 ((wB.setCell ⟨go17, ((ji12) : Int).toNat, none⟩ (v139)).heap[gb101]? = some (.cells #[.int .i64 a0_0, .int .i64 a0_1, .slice A0_2 l0_2.length c0_2] 24 (0, 0))) := ⟨by (with_reducible repeat (first | refine blk_drewN ?_ _ | refine blk_drew ?_ | refine blk_alloc ?_ _)); refine blk_far ?_ (by have h_ := Kd.N_away HX94b.out (fun _ hk => hk.2.2.1); intro e_; exact h_ qqu) _; (with_reducible repeat (first | refine blk_drewN ?_ _ | refine blk_drew ?_ | refine blk_alloc ?_ _)); exact BK101b.out⟩
  have m6_ : Aside0 ((wB.setCell ⟨go17, ((ji12) : Int).toNat, none⟩ (v139)).heap[gb102]? = some (.cells #[.int .i64 a1_0, .int .i64 a1_1, .slice A1_2 l1_2.length c1_2] 24 (0, 0))) := ⟨by (with_reducible repeat (first | refine blk_drewN ?_ _ | refine blk_drew ?_ | refine blk_alloc ?_ _)); refine blk_far ?_ (by have h_ := Kd.N_away HX94b.out (fun _ hk => hk.2.2.2.1); intro e_; exact h_ qqu) _; (with_reducible repeat (first | refine blk_drewN ?_ _ | refine blk_drew ?_ | refine blk_alloc ?_ _)); exact BK102b.out⟩
  have m7_ : Aside0 ((wB.setCell ⟨go17, ((ji12) : Int).toNat, none⟩ (v139)).heap[gb109]? = some (.cells #[.int .i64 t104, .int .i64 t105, .slice (some ad137) t106.length co45] 24 (0, 0))) := ⟨by (with_reducible repeat (first | refine blk_drewN ?_ _ | refine blk_drew ?_ | refine blk_alloc ?_ _)); refine blk_far ?_ (by have h_ := Kd.N_away HX94b.out (fun _ hk => hk.2.2.2.2.1); intro e_; exact h_ qqu) _; (with_reducible repeat (first | refine blk_drewN ?_ _ | refine blk_drew ?_ | refine blk_alloc ?_ _)); exact BK109b.out⟩
  have m8_ : Aside0 ((wB.setCell ⟨go17, ((ji12) : Int).toNat, none⟩ (v139)).heap[gb115]? = some (.cells #[.int .i64 t110, .int .i64 t111, .slice Ao53 t112.length co53] 24 (0, 0))) := ⟨by (with_reducible repeat (first | refine blk_drewN ?_ _ | refine blk_drew ?_ | refine blk_alloc ?_ _)); refine blk_far ?_ (by have h_ := Kd.N_away HX94b.out (fun _ hk => hk.2.2.2.2.2.1); intro e_; exact h_ qqu) _; (with_reducible repeat (first | refine blk_drewN ?_ _ | refine blk_drew ?_ | refine blk_alloc ?_ _)); exact BK115b.out⟩
  have m9_ : Aside0 ((wB.setCell ⟨go17, ((ji12) : Int).toNat, none⟩ (v139)).heap[gb116]? = some (.cells #[.int .i64 t104, .int .i64 (wrap64 (1 + (Int.tmod t105 32767))), .slice (some ad137) t106.length co45] 24 (0, 0))) := ⟨by (with_reducible repeat (first | refine blk_drewN ?_ _ | refine blk_drew ?_ | refine blk_alloc ?_ _)); refine blk_far ?_ (by have h_ := Kd.N_away HX94b.out (fun _ hk => hk.2.2.2.2.2.2.1); intro e_; exact h_ qqu) _; (with_reducible repeat (first | refine blk_drewN ?_ _ | refine blk_drew ?_ | refine blk_alloc ?_ _)); exact BK116b.out⟩
  have m10_ : Aside0 ((wB.setCell ⟨go17, ((ji12) : Int).toNat, none⟩ (v139)).heap[gb117]? = some (.cells #[.int .i64 t104, .int .i64 t105, .slice Ao76 y130.length co76] 24 (0, 0))) := ⟨by (with_reducible repeat (first | refine blk_drewN ?_ _ | refine blk_drew ?_ | refine blk_alloc ?_ _)); refine blk_far ?_ (by have h_ := Kd.N_away HX94b.out (fun _ hk => hk.2.2.2.2.2.2.2.1); intro e_; exact h_ qqu) _; (with_reducible repeat (first | refine blk_drewN ?_ _ | refine blk_drew ?_ | refine blk_alloc ?_ _)); exact BK117b.out⟩
  have m11_ : Aside0 ((wB.setCell ⟨go17, ((ji12) : Int).toNat, none⟩ (v139)).heap[gb133]? = some (.cells #[.int .i64 t104, .int .i64 t105, .slice (some ⟨go17, 0, none⟩) y134.length co89] 24 (0, 0))) := ⟨by (with_reducible repeat (first | refine blk_drewN ?_ _ | refine blk_drew ?_ | refine blk_alloc ?_ _)); refine blk_far ?_ (by have h_ := Kd.N_away HX94b.out (fun _ hk => hk.2.2.2.2.2.2.2.2); intro e_; exact h_ qqu) _; (with_reducible repeat (first | refine blk_drewN ?_ _ | refine blk_drew ?_ | refine blk_alloc ?_ _)); exact BK133b.out⟩
  have m12_ : Aside0 (Below w.heap.size w (wB.setCell ⟨go17, ((ji12) : Int).toNat, none⟩ (v139))) := ⟨by repeat (first | (with_reducible first | exact HBb.out | apply below_alloc | apply pw_below_drewN | apply below_drew1 | refine below_set ?_ GB17.out | refine below_set ?_ GE101.out | refine below_set ?_ GE102.out | refine below_set ?_ GE109.out | refine below_set ?_ GE115.out | refine below_set ?_ GE116.out | refine below_set ?_ GE117.out | refine below_set ?_ GE133.out) | exact HBb.out)⟩
  clear eo1b_ hceB hccB hfrB hclB hMB HSB HRB
  replace eB := Aside0.mk eB
  replace hoB := Aside0.mk hoB
  replace lt_ := Aside0.mk lt_
  replace hwB := Aside0.mk hwB
  clear ja_ jb_
  have HX94 := Aside0.mk (show Kd.N (Kd.slice 28 k28) 30 _ w.heap.size (fun k_ => some k_ ≠ (.slice Ao53 t112.length co53 : Value).ownBlock ∧ some k_ ≠ (.slice Ao76 y130.length co76 : Value).ownBlock ∧ some k_ ≠ (v139 : Value).ownBlock ∧ k_ ≠ gb101 ∧ k_ ≠ gb102 ∧ k_ ≠ gb109 ∧ k_ ≠ gb115 ∧ k_ ≠ gb116 ∧ k_ ≠ gb117 ∧ k_ ≠ gb133) (.slice (some ⟨go17, 0, none⟩) y134.length co89) y134 from (Kd.N_mono (HO136.out) (fun k_ hk => ⟨hk.1.1, ⟨hk.1.2.1, ⟨hk.2, ⟨hk.1.2.2.1, ⟨hk.1.2.2.2.1, ⟨hk.1.2.2.2.2.1, ⟨hk.1.2.2.2.2.2.1, ⟨hk.1.2.2.2.2.2.2.1, ⟨hk.1.2.2.2.2.2.2.2.1, hk.1.2.2.2.2.2.2.2.2⟩⟩⟩⟩⟩⟩⟩⟩⟩)))
  replace HX94 := Aside0.mk (show Kd.N (Kd.slice 28 k28) 30 _ w.heap.size (fun k_ => some k_ ≠ (.slice Ao53 t112.length co53 : Value).ownBlock ∧ some k_ ≠ (.slice Ao76 y130.length co76 : Value).ownBlock ∧ k_ ≠ gb101 ∧ k_ ≠ gb102 ∧ k_ ≠ gb109 ∧ k_ ≠ gb115 ∧ k_ ≠ gb116 ∧ k_ ≠ gb117 ∧ k_ ≠ gb133) (.slice (some ⟨go17, 0, none⟩) y134.length co89) y134 from Kd.N_mono HX94.out (fun k_ hk => ⟨hk.1, ⟨hk.2.1, ⟨hk.2.2.2.1, ⟨hk.2.2.2.2.1, ⟨hk.2.2.2.2.2.1, ⟨hk.2.2.2.2.2.2.1, ⟨hk.2.2.2.2.2.2.2.1, ⟨hk.2.2.2.2.2.2.2.2.1, hk.2.2.2.2.2.2.2.2.2⟩⟩⟩⟩⟩⟩⟩⟩))
  obtain ⟨ce94, hcl94, hM94, hcc94, hfr94⟩ := Kd.N_elem HX94.out [] ((ji12) : Int) (of_decide_eq_true qq4) qq1k
  obtain ⟨ua94_0, uc94_0, rfl, ul94_0, ge94_0⟩ := Kd.FK_slice_open hM94
  obtain ⟨Ao1_, co1_, eo1_⟩ := Kd.R_slice HO140.out
  have hz1_ := (Kd.R_types (Kd.R_types (Kd.R_types (Kd.R_types (Kd.R_types (Kd.R_types (Kd.R_types (Kd.R_apart' (Kd.R_apart' (Kd.R_apart' (HO140.out) (Kd.N_typed HO114.out) (by decide)) (Kd.N_typed HO132.out) (by decide)) (Kd.N_typed HO136.out) (by decide)) BK101.out (by decide)) BK102.out (by decide)) BK109.out (by decide)) BK115.out (by decide)) BK116.out (by decide)) BK117.out (by decide)) BK133.out (by decide))
  rw [eo1_] at hz1_
  have HP94 := (Kd.N_seg HX94.out ((ji12) : Int) (of_decide_eq_true qq4) qq1k (seg := [v139]) (j := 0) hcl94 hcc94 (show 1 ≤ 1 from by decide) (x' := y138) (by rw [eo1_]; exact (Kd.FK_slice_mk (Kd.R_reads' (Kd.R_mono (ok' := (fun k_ => ((fun k_ => some k_ ≠ (.slice Ao53 t112.length co53 : Value).ownBlock ∧ some k_ ≠ (.slice Ao76 y130.length co76 : Value).ownBlock ∧ k_ ≠ gb101 ∧ k_ ≠ gb102 ∧ k_ ≠ gb109 ∧ k_ ≠ gb115 ∧ k_ ≠ gb116 ∧ k_ ≠ gb117 ∧ k_ ≠ gb133)) k_ ∧ k_ ≠ go17)) hz1_ (fun k_ hk => ⟨⟨hk.1.1.1.1.1.1.1.1.1.2, ⟨hk.1.1.1.1.1.1.1.1.2, ⟨hk.1.1.1.1.1.1.2, ⟨hk.1.1.1.1.1.2, ⟨hk.1.1.1.1.2, ⟨hk.1.1.1.2, ⟨hk.1.1.2, ⟨hk.1.2, hk.2⟩⟩⟩⟩⟩⟩⟩⟩, fun e_ => (hk.1.1.1.1.1.1.1.2) qqu⟩))).2.1 (Kd.R_F (Kd.R_mono (ok' := (fun k_ => ((fun k_ => some k_ ≠ (.slice Ao53 t112.length co53 : Value).ownBlock ∧ some k_ ≠ (.slice Ao76 y130.length co76 : Value).ownBlock ∧ k_ ≠ gb101 ∧ k_ ≠ gb102 ∧ k_ ≠ gb109 ∧ k_ ≠ gb115 ∧ k_ ≠ gb116 ∧ k_ ≠ gb117 ∧ k_ ≠ gb133)) k_ ∧ k_ ≠ go17)) hz1_ (fun k_ hk => ⟨⟨hk.1.1.1.1.1.1.1.1.1.2, ⟨hk.1.1.1.1.1.1.1.1.2, ⟨hk.1.1.1.1.1.1.2, ⟨hk.1.1.1.1.1.2, ⟨hk.1.1.1.1.2, ⟨hk.1.1.1.2, ⟨hk.1.1.2, ⟨hk.1.2, hk.2⟩⟩⟩⟩⟩⟩⟩⟩, fun e_ => (hk.1.1.1.1.1.1.1.2) qqu⟩))))) (fun _ hk => hk)).1
  (try simp only [show ((Kd.slice 28 k28)).sz = 1 from rfl, Nat.mul_one, Nat.add_zero] at HP94)
  rw [← Ny141.out] at HP94
  have HQ94 := Aside0.mk HP94
  clear hcl94 hcc94 hfr94 hM94 HP94
  refine hK.out _ _ ⟨(blk_cell BK133.out 0).trans rfl, (blk_cell BK133.out 1).trans rfl, (blk_cell BK133.out 2).trans rfl, (blk_cell BK109.out 0).trans rfl, (blk_cell BK109.out 1).trans rfl, (blk_cell BK109.out 2).trans rfl, HS6_⟩ (fun hHeld => ?_)
  clear hK K
  refine normS (some 55) ?_
  refine pureS 9 (some 56) (bs 1023 11) ?_
  refine last_ (i := 10) (N := none) (bs 2047 11) rfl rfl (one_of HT_.out (by kernel_rfl)) (by decide) (fun K hK => ?_)
  refine skip_ (w1 := ?_) (by rfl) rfl ?_ ?_
  rotate_left
  · go_simp
    rfl
  refine hK.out _ _ ?_
  clear hK K
  refine done_ (done_of HT_.out (by kernel_rfl)) ?_
  try go_wp2
  have n0_ : Aside0 (Kd.N (Kd.slice 28 k28) 30 (w93.setCell ⟨go17, ((ji12) : Int).toNat, none⟩ (v139)) w.heap.size (fun k_ => some k_ ≠ (.slice Ao53 t112.length co53 : Value).ownBlock ∧ some k_ ≠ (.slice Ao76 y130.length co76 : Value).ownBlock ∧ some k_ ≠ (.slice (some ⟨go17, 0, none⟩) y134.length co89 : Value).ownBlock ∧ k_ ≠ gb101 ∧ k_ ≠ gb102 ∧ k_ ≠ gb109 ∧ k_ ≠ gb115 ∧ k_ ≠ gb116 ∧ k_ ≠ gb117 ∧ k_ ≠ gb133) (.slice (some ad137) t106.length co45) t106) := ⟨by (with_reducible repeat (first | apply Kd.N_alloc | apply Kd.N_drewN | apply Kd.N_drew)); exact Kd.N_mono (Kd.N_far (p := ⟨go17, ((ji12) : Int).toNat, none⟩) (Kd.N_mono HO108.out (fun k_ hk => (⟨hk, fun e_ => hk.1.2.2.1 qqu⟩ : _ ∧ k_ ≠ go17))) (fun _ hk => hk.2) (v139)) (fun _ hk => ⟨hk.1.1.1, ⟨hk.1.1.2.1, ⟨hk.1.1.2.2.1, ⟨hk.1.1.2.2.2.1, ⟨hk.1.1.2.2.2.2.1, ⟨hk.1.1.2.2.2.2.2.1, ⟨hk.1.1.2.2.2.2.2.2.1, ⟨hk.1.1.2.2.2.2.2.2.2.1, ⟨hk.1.1.2.2.2.2.2.2.2.2.1, hk.1.1.2.2.2.2.2.2.2.2.2⟩⟩⟩⟩⟩⟩⟩⟩⟩)⟩
  have n1_ : Aside0 (Kd.N (Kd.slice 28 k28) 30 (w93.setCell ⟨go17, ((ji12) : Int).toNat, none⟩ (v139)) w.heap.size (fun k_ => some k_ ≠ (.slice (some ad137) t106.length co45 : Value).ownBlock ∧ some k_ ≠ (.slice Ao76 y130.length co76 : Value).ownBlock ∧ some k_ ≠ (.slice (some ⟨go17, 0, none⟩) y134.length co89 : Value).ownBlock ∧ k_ ≠ gb101 ∧ k_ ≠ gb102 ∧ k_ ≠ gb109 ∧ k_ ≠ gb115 ∧ k_ ≠ gb116 ∧ k_ ≠ gb117 ∧ k_ ≠ gb133) (.slice Ao53 t112.length co53) t112) := ⟨by (with_reducible repeat (first | apply Kd.N_alloc | apply Kd.N_drewN | apply Kd.N_drew)); exact Kd.N_mono (Kd.N_far (p := ⟨go17, ((ji12) : Int).toNat, none⟩) (Kd.N_mono HO114.out (fun k_ hk => (⟨hk, fun e_ => hk.1.2.2.1 qqu⟩ : _ ∧ k_ ≠ go17))) (fun _ hk => hk.2) (v139)) (fun _ hk => ⟨hk.1.1.1, ⟨hk.1.1.2.1, ⟨hk.1.1.2.2.1, ⟨hk.1.1.2.2.2.1, ⟨hk.1.1.2.2.2.2.1, ⟨hk.1.1.2.2.2.2.2.1, ⟨hk.1.1.2.2.2.2.2.2.1, ⟨hk.1.1.2.2.2.2.2.2.2.1, ⟨hk.1.1.2.2.2.2.2.2.2.2.1, hk.1.1.2.2.2.2.2.2.2.2.2⟩⟩⟩⟩⟩⟩⟩⟩⟩)⟩
  have n2_ : Aside0 (Kd.N (Kd.slice 28 k28) 30 (w93.setCell ⟨go17, ((ji12) : Int).toNat, none⟩ (v139)) w.heap.size (fun k_ => some k_ ≠ (.slice Ao53 t112.length co53 : Value).ownBlock ∧ some k_ ≠ (.slice (some ⟨go17, 0, none⟩) y134.length co89 : Value).ownBlock ∧ k_ ≠ gb101 ∧ k_ ≠ gb102 ∧ k_ ≠ gb109 ∧ k_ ≠ gb115 ∧ k_ ≠ gb116 ∧ k_ ≠ gb117 ∧ k_ ≠ gb133) (.slice Ao76 y130.length co76) y130) := ⟨by (with_reducible repeat (first | apply Kd.N_alloc | apply Kd.N_drewN | apply Kd.N_drew)); exact Kd.N_mono (Kd.N_far (p := ⟨go17, ((ji12) : Int).toNat, none⟩) (Kd.N_mono HO132.out (fun k_ hk => (⟨hk, fun e_ => hk.1.2.1 qqu⟩ : _ ∧ k_ ≠ go17))) (fun _ hk => hk.2) (v139)) (fun _ hk => ⟨hk.1.1.1, ⟨hk.1.1.2.1, ⟨hk.1.1.2.2.1, ⟨hk.1.1.2.2.2.1, ⟨hk.1.1.2.2.2.2.1, ⟨hk.1.1.2.2.2.2.2.1, ⟨hk.1.1.2.2.2.2.2.2.1, ⟨hk.1.1.2.2.2.2.2.2.2.1, hk.1.1.2.2.2.2.2.2.2.2⟩⟩⟩⟩⟩⟩⟩⟩)⟩
  have n3_ : Aside0 (Kd.N (Kd.slice 28 k28) 30 (w93.setCell ⟨go17, ((ji12) : Int).toNat, none⟩ (v139)) w.heap.size (fun k_ => some k_ ≠ (.slice Ao53 t112.length co53 : Value).ownBlock ∧ some k_ ≠ (.slice Ao76 y130.length co76 : Value).ownBlock ∧ k_ ≠ gb101 ∧ k_ ≠ gb102 ∧ k_ ≠ gb109 ∧ k_ ≠ gb115 ∧ k_ ≠ gb116 ∧ k_ ≠ gb117 ∧ k_ ≠ gb133) (.slice (some ⟨go17, 0, none⟩) y134.length co89) y141) := ⟨qN HQ94.out⟩
  have n4_ : Aside0 (Kd.V k28 28 (w93.setCell ⟨go17, ((ji12) : Int).toNat, none⟩ (v139)) w.heap.size (fun k_ => some k_ ≠ (.slice (some ad137) t106.length co45 : Value).ownBlock ∧ some k_ ≠ (.slice Ao53 t112.length co53 : Value).ownBlock ∧ some k_ ≠ (.slice Ao76 y130.length co76 : Value).ownBlock ∧ some k_ ≠ (.slice (some ⟨go17, 0, none⟩) y134.length co89 : Value).ownBlock ∧ k_ ≠ gb101 ∧ k_ ≠ gb102 ∧ k_ ≠ gb109 ∧ k_ ≠ gb115 ∧ k_ ≠ gb116 ∧ k_ ≠ gb117 ∧ k_ ≠ gb133) (.slice A137_0 (rd_L3 t106 (ji12)).length c137_0) (rd_L3 t106 (ji12))) := ⟨by (with_reducible repeat (first | apply Kd.V_alloc | apply Kd.V_drewN | apply Kd.V_drew)); exact Kd.V_mono (Kd.V_far (p := ⟨go17, ((ji12) : Int).toNat, none⟩) (Kd.V_mono HL137_0.out (fun k_ hk => (⟨hk, fun e_ => hk.1.1.2.2.1 qqu⟩ : _ ∧ k_ ≠ go17))) (fun _ hk => hk.2) (v139)) (fun _ hk => ⟨hk.1.1.2, ⟨hk.1.1.1.1, ⟨hk.1.1.1.2.1, ⟨hk.1.1.1.2.2.1, ⟨hk.1.1.1.2.2.2.1, ⟨hk.1.1.1.2.2.2.2.1, ⟨hk.1.1.1.2.2.2.2.2.1, ⟨hk.1.1.1.2.2.2.2.2.2.1, ⟨hk.1.1.1.2.2.2.2.2.2.2.1, ⟨hk.1.1.1.2.2.2.2.2.2.2.2.1, hk.1.1.1.2.2.2.2.2.2.2.2.2⟩⟩⟩⟩⟩⟩⟩⟩⟩⟩)⟩
  have n5_ : Aside0 ((w93.setCell ⟨go17, ((ji12) : Int).toNat, none⟩ (v139)).heap[gb101]? = some (.cells #[.int .i64 a0_0, .int .i64 a0_1, .slice A0_2 l0_2.length c0_2] 24 (0, 0))) := ⟨by (with_reducible repeat (first | refine blk_drewN ?_ _ | refine blk_drew ?_ | refine blk_alloc ?_ _)); refine blk_far ?_ (by have h_ := Kd.N_away HX94.out (fun _ hk => hk.2.2.1); intro e_; exact h_ qqu) _; (with_reducible repeat (first | refine blk_drewN ?_ _ | refine blk_drew ?_ | refine blk_alloc ?_ _)); exact BK101.out⟩
  have n6_ : Aside0 ((w93.setCell ⟨go17, ((ji12) : Int).toNat, none⟩ (v139)).heap[gb102]? = some (.cells #[.int .i64 a1_0, .int .i64 a1_1, .slice A1_2 l1_2.length c1_2] 24 (0, 0))) := ⟨by (with_reducible repeat (first | refine blk_drewN ?_ _ | refine blk_drew ?_ | refine blk_alloc ?_ _)); refine blk_far ?_ (by have h_ := Kd.N_away HX94.out (fun _ hk => hk.2.2.2.1); intro e_; exact h_ qqu) _; (with_reducible repeat (first | refine blk_drewN ?_ _ | refine blk_drew ?_ | refine blk_alloc ?_ _)); exact BK102.out⟩
  have n7_ : Aside0 ((w93.setCell ⟨go17, ((ji12) : Int).toNat, none⟩ (v139)).heap[gb109]? = some (.cells #[.int .i64 t104, .int .i64 t105, .slice (some ad137) t106.length co45] 24 (0, 0))) := ⟨by (with_reducible repeat (first | refine blk_drewN ?_ _ | refine blk_drew ?_ | refine blk_alloc ?_ _)); refine blk_far ?_ (by have h_ := Kd.N_away HX94.out (fun _ hk => hk.2.2.2.2.1); intro e_; exact h_ qqu) _; (with_reducible repeat (first | refine blk_drewN ?_ _ | refine blk_drew ?_ | refine blk_alloc ?_ _)); exact BK109.out⟩
  have n8_ : Aside0 ((w93.setCell ⟨go17, ((ji12) : Int).toNat, none⟩ (v139)).heap[gb115]? = some (.cells #[.int .i64 t110, .int .i64 t111, .slice Ao53 t112.length co53] 24 (0, 0))) := ⟨by (with_reducible repeat (first | refine blk_drewN ?_ _ | refine blk_drew ?_ | refine blk_alloc ?_ _)); refine blk_far ?_ (by have h_ := Kd.N_away HX94.out (fun _ hk => hk.2.2.2.2.2.1); intro e_; exact h_ qqu) _; (with_reducible repeat (first | refine blk_drewN ?_ _ | refine blk_drew ?_ | refine blk_alloc ?_ _)); exact BK115.out⟩
  have n9_ : Aside0 ((w93.setCell ⟨go17, ((ji12) : Int).toNat, none⟩ (v139)).heap[gb116]? = some (.cells #[.int .i64 t104, .int .i64 (wrap64 (1 + (Int.tmod t105 32767))), .slice (some ad137) t106.length co45] 24 (0, 0))) := ⟨by (with_reducible repeat (first | refine blk_drewN ?_ _ | refine blk_drew ?_ | refine blk_alloc ?_ _)); refine blk_far ?_ (by have h_ := Kd.N_away HX94.out (fun _ hk => hk.2.2.2.2.2.2.1); intro e_; exact h_ qqu) _; (with_reducible repeat (first | refine blk_drewN ?_ _ | refine blk_drew ?_ | refine blk_alloc ?_ _)); exact BK116.out⟩
  have n10_ : Aside0 ((w93.setCell ⟨go17, ((ji12) : Int).toNat, none⟩ (v139)).heap[gb117]? = some (.cells #[.int .i64 t104, .int .i64 t105, .slice Ao76 y130.length co76] 24 (0, 0))) := ⟨by (with_reducible repeat (first | refine blk_drewN ?_ _ | refine blk_drew ?_ | refine blk_alloc ?_ _)); refine blk_far ?_ (by have h_ := Kd.N_away HX94.out (fun _ hk => hk.2.2.2.2.2.2.2.1); intro e_; exact h_ qqu) _; (with_reducible repeat (first | refine blk_drewN ?_ _ | refine blk_drew ?_ | refine blk_alloc ?_ _)); exact BK117.out⟩
  have n11_ : Aside0 ((w93.setCell ⟨go17, ((ji12) : Int).toNat, none⟩ (v139)).heap[gb133]? = some (.cells #[.int .i64 t104, .int .i64 t105, .slice (some ⟨go17, 0, none⟩) y134.length co89] 24 (0, 0))) := ⟨by (with_reducible repeat (first | refine blk_drewN ?_ _ | refine blk_drew ?_ | refine blk_alloc ?_ _)); refine blk_far ?_ (by have h_ := Kd.N_away HX94.out (fun _ hk => hk.2.2.2.2.2.2.2.2); intro e_; exact h_ qqu) _; (with_reducible repeat (first | refine blk_drewN ?_ _ | refine blk_drew ?_ | refine blk_alloc ?_ _)); exact BK133.out⟩
  have n12_ : Aside0 (Below w.heap.size w (w93.setCell ⟨go17, ((ji12) : Int).toNat, none⟩ (v139))) := ⟨by repeat (first | (with_reducible first | exact HB.out | apply below_alloc | apply pw_below_drewN | apply below_drew1 | refine below_set ?_ GB17.out | refine below_set ?_ GE101.out | refine below_set ?_ GE102.out | refine below_set ?_ GE109.out | refine below_set ?_ GE115.out | refine below_set ?_ GE116.out | refine below_set ?_ GE117.out | refine below_set ?_ GE133.out) | exact HB.out)⟩
  have hne_ : gB ≠ go17 := fun e_ => (Kd.R_ne HO140.out GG17.out (by decide)) (by rw [hoB.out, e_])
  have hcomm_ : wB.setCell ⟨go17, ((ji12) : Int).toNat, none⟩ v139 = (w93.setCell ⟨go17, ((ji12) : Int).toNat, none⟩ v139).setCell ⟨gB, (ji19).toNat * 6, none⟩ (.int .i64 5000) := by rw [hwB.out]; exact setCell_comm _ _ _ _ _ hne_
  rw [hcomm_] at m0_ m1_ m2_ m3_ m5_ m6_ m7_ m8_ m9_ m10_ m11_ m12_
  have e149 : y134.set ((ji12) : Int).toNat (row5 y138 (ji19)) = y149 := by rw [Ny149.out]; unfold chg; rw [hji12, hji19, lt_.out, Ny141.out, List.set_set]
  rw [e149] at m3_
  clear e149 hcomm_
  have e95_ : (w93.setCell ⟨go17, ((ji12) : Int).toNat, none⟩ v139).cell? ⟨go17, ((ji12) : Int).toNat, none⟩ = some v139 := by first | exact World.cell?_setCell_same _ _ _ hx17_0 | exact World.cell?_setCell_same _ _ hx17_0 | exact World.cell?_setCell_same _ hx17_0
  have HG95_ := blk_far (p := ⟨go17, ((ji12) : Int).toNat, none⟩) HGB hne_ v139
  (try clear HO108)
  (try clear HO114)
  (try clear HO132)
  (try clear HO136)
  (try clear HL137_0)
  (try clear BK101)
  (try clear BK102)
  (try clear BK109)
  (try clear BK115)
  (try clear BK116)
  (try clear BK117)
  (try clear BK133)
  (try clear HB)
  rw [eo1_] at n0_ n1_ n2_ n3_ n4_ n5_ n6_ n7_ n8_ n9_ n10_ n11_ n12_ m0_ m1_ m2_ m3_ m5_ m6_ m7_ m8_ m9_ m10_ m11_ m12_ e95_ HG95_
  have eAB_ : Ao1_ = some ⟨gB, 0, none⟩ := by have h_ := eo1_.symm.trans eB.out; injection h_
  replace eAB_ := Aside0.mk eAB_
  generalize (w93.setCell ⟨go17, ((ji12) : Int).toNat, none⟩ (.slice Ao1_ y138.length co1_)) = w95 at n0_ n1_ n2_ n3_ n4_ n5_ n6_ n7_ n8_ n9_ n10_ n11_ n12_ m0_ m1_ m2_ m3_ m5_ m6_ m7_ m8_ m9_ m10_ m11_ m12_ e95_ HG95_ ⊢
  replace e95_ := Aside0.mk e95_
  have HO108 := n0_
  have HO114 := n1_
  have HO132 := n2_
  have HO136 := n3_
  have HL137_0 := n4_
  have BK101 := n5_
  have BK102 := n6_
  have BK109 := n7_
  have BK115 := n8_
  have BK116 := n9_
  have BK117 := n10_
  have BK133 := n11_
  have HB := n12_
  clear n0_ n1_ n2_ n3_ n4_ n5_ n6_ n7_ n8_ n9_ n10_ n11_ n12_
  replace HO108 := Aside0.mk (Kd.N_drew HO108.out)
  replace HO114 := Aside0.mk (Kd.N_drew HO114.out)
  replace HO132 := Aside0.mk (Kd.N_drew HO132.out)
  replace HO136 := Aside0.mk (Kd.N_drew HO136.out)
  replace HL137_0 := Aside0.mk (Kd.V_drew HL137_0.out)
  replace BK101 := Aside0.mk (blk_drew BK101.out)
  replace BK102 := Aside0.mk (blk_drew BK102.out)
  replace BK109 := Aside0.mk (blk_drew BK109.out)
  replace BK115 := Aside0.mk (blk_drew BK115.out)
  replace BK116 := Aside0.mk (blk_drew BK116.out)
  replace BK117 := Aside0.mk (blk_drew BK117.out)
  replace BK133 := Aside0.mk (blk_drew BK133.out)
  replace HB := Aside0.mk (below_drew1 HB.out)
  have p142 : 0 ≤ ((ji12) : Int) := of_decide_eq_true qq4
  have q142 : (ji12) < (y141.length : Int) := (by have h_ : ((ji12) : Int) < ((y134.length : Int) : Int) := of_decide_eq_true qq4; first | (have e_ := (Kd.N_reads' HO136.out).1; omega) | simpa only [Ny141.out, List.length_set] using h_)
  have ql142 : (((ji12) : Int) < ((y134.length : Int) : Int)) = True := eq_true (of_decide_eq_true qq4)
  obtain ⟨ad142, A142_0, c142_0, e142, hx142_0, hl142_0, hi142_0⟩ := at_L3 (Kd.N_reads' HO136.out).2.2 (ji12) p142 q142
  obtain rfl : (⟨go17, 0, none⟩ : Addr) = ad142 := (by injection e142)
  obtain ⟨ce142, hce142, hMe142, hcc142⟩ := Kd.N_get HO136.out [] (ji12) p142 (by first | exact q142 | exact of_decide_eq_true qq4 | (have e_ := (Kd.N_reads' HO136.out).1; omega))
  obtain ⟨ua142_0, uc142_0, rfl, ul142_0, ge142_0⟩ := Kd.FK_slice_open hMe142
  have hv142_0 := hcc142 0 _ rfl
  rw [Nat.add_zero, show ((Kd.slice 28 k28)).sz = 1 from rfl, Nat.mul_one] at hv142_0
  replace hv142_0 := Option.some.inj (hv142_0.symm.trans hx142_0)
  injection hv142_0 with hva_ hvn_ hvc_
  rw [hva_] at ge142_0
  rw [hvc_] at ul142_0
  have HL142_0 := Aside0.mk (show Kd.V k28 28 _ w.heap.size _ _ (rd_L3 y141 (ji12)) from Kd.V_mk ul142_0 ge142_0)
  clear hva_ hvn_ hvc_ ge142_0 ul142_0
  clear hcc142 hce142
  (first | simp only [add_plain] at hx142_0 | simp only [add_at] at hx142_0 | simp only [Addr.add, Nat.zero_add] at hx142_0 | skip)
  have HR142_0 := Aside0.mk hi142_0
  have HC142_0 := Aside0.mk hl142_0
  clear hi142_0 hl142_0
  replace p142 := eq_true p142
  replace q142 := eq_true q142
  have p143 : 0 ≤ ((ji12) : Int) := of_decide_eq_true qq4
  have q143 : (ji12) < (t106.length : Int) := of_decide_eq_true qq4
  obtain ⟨ad143, A143_0, c143_0, e143, hx143_0, hl143_0, hi143_0⟩ := at_L3 (Kd.N_reads' HO108.out).2.2 (ji12) p143 q143
  obtain rfl : ad137 = ad143 := (by injection e143)
  obtain ⟨ce143, hce143, hMe143, hcc143⟩ := Kd.N_get HO108.out [] (ji12) p143 (by first | exact q143 | exact of_decide_eq_true qq4 | (have e_ := (Kd.N_reads' HO108.out).1; omega))
  obtain ⟨ua143_0, uc143_0, rfl, ul143_0, ge143_0⟩ := Kd.FK_slice_open hMe143
  have hv143_0 := hcc143 0 _ rfl
  rw [Nat.add_zero, show ((Kd.slice 28 k28)).sz = 1 from rfl, Nat.mul_one] at hv143_0
  replace hv143_0 := Option.some.inj (hv143_0.symm.trans hx143_0)
  injection hv143_0 with hva_ hvn_ hvc_
  rw [hva_] at ge143_0
  rw [hvc_] at ul143_0
  have HL143_0 := Aside0.mk (show Kd.V k28 28 _ w.heap.size _ _ (rd_L3 t106 (ji12)) from Kd.V_mk ul143_0 ge143_0)
  clear hva_ hvn_ hvc_ ge143_0 ul143_0
  clear hcc143 hce143
  have HR143_0 := Aside0.mk hi143_0
  have HC143_0 := Aside0.mk hl143_0
  clear hi143_0 hl143_0
  replace p143 := eq_true p143
  replace q143 := eq_true q143
  have p144 : 0 ≤ ((ji19) : Int) := of_decide_eq_true qq4
  have q144 : (ji19) < ((rd_L3 y141 (ji12)).length : Int) := of_decide_eq_true qq4
  obtain ⟨ad144, e144, hx144_0, hx144_1, hx144_2, hx144_3, hx144_4, hx144_5⟩ := at_T28 (by repeat (first | (with_reducible exact HR142_0.out) | (with_reducible refine Kd.C_alloc ?_ _) | (with_reducible refine Kd.C_drewN ?_ _) | (with_reducible refine Kd.C_drew ?_) | exact HR142_0.out)) (ji19) p144 q144
  cases e144
  replace p144 := eq_true p144
  replace q144 := eq_true q144
  have e95d_ : (w95.drew).cell? ⟨go17, ((ji12) : Int).toNat, none⟩ = some (.slice Ao1_ y138.length co1_) := e95_.out
  have eA_ : ad144 = ⟨gB, 0, none⟩ := by
    have h_ := Option.some.inj (hx142_0.symm.trans e95d_)
    injection h_ with h1_ h2_ h3_
    rw [eAB_.out] at h1_
    injection h1_
  clear e95d_
  have eP_ : ad144.add ((ji19).toNat * 6) = (⟨gB, (ji19).toNat * 6, none⟩ : Addr) := by rw [eA_]; first | (simp only [add_plain, Nat.zero_add]; done) | (simp only [add_plain]; rw [Nat.zero_add]) | (unfold Addr.add; split <;> simp_all)
  clear eA_
  replace eP_ := Aside0.mk eP_
  have hf96_ : (w95.drew).frozen? (ad144.add ((ji19).toNat * 6)) = false := by
    rw [eP_.out]
    exact blk_frozen (w := w95.drew) HG95_ ((ji19).toNat * 6)
  replace m0_ := Aside0.mk (Kd.N_drew m0_.out)
  replace m1_ := Aside0.mk (Kd.N_drew m1_.out)
  replace m2_ := Aside0.mk (Kd.N_drew m2_.out)
  replace m3_ := Aside0.mk (Kd.N_drew m3_.out)
  replace m5_ := Aside0.mk (blk_drew m5_.out)
  replace m6_ := Aside0.mk (blk_drew m6_.out)
  replace m7_ := Aside0.mk (blk_drew m7_.out)
  replace m8_ := Aside0.mk (blk_drew m8_.out)
  replace m9_ := Aside0.mk (blk_drew m9_.out)
  replace m10_ := Aside0.mk (blk_drew m10_.out)
  replace m11_ := Aside0.mk (blk_drew m11_.out)
  replace m12_ := Aside0.mk (below_drew1 m12_.out)
  rw [show ((w95.setCell ⟨gB, (ji19).toNat * 6, none⟩ (.int .i64 5000)).drew) = (w95.drew).setCell ⟨gB, (ji19).toNat * 6, none⟩ (.int .i64 5000) from rfl] at m0_ m1_ m2_ m3_ m5_ m6_ m7_ m8_ m9_ m10_ m11_ m12_
  refine start_ (n := 17) (S := fun w' => w'.cell? ⟨gb133, 0, none⟩ = some (.int .i64 t104) ∧ w'.cell? ⟨gb133, 1, none⟩ = some (.int .i64 t105) ∧ w'.cell? ⟨gb133, 2, none⟩ = some (.slice (some ⟨go17, 0, none⟩) y134.length co89) ∧ w'.cell? ⟨gb109, 0, none⟩ = some (.int .i64 t104) ∧ w'.cell? ⟨gb109, 1, none⟩ = some (.int .i64 t105) ∧ w'.cell? ⟨gb109, 2, none⟩ = some (.slice (some ad137) t106.length co45) ∧ w'.cell? ⟨go17, ((ji12)).toNat, none⟩ = some (.slice (some ad144) (rd_L3 y141 (ji12)).length c142_0) ∧ w'.cell? (ad137.add ((ji12)).toNat) = some (.slice A143_0 (rd_L3 t106 (ji12)).length c143_0) ∧ w'.cell? (ad144.add (((ji19)).toNat * 6)) = some (.int .i64 ((rd_T28 (rd_L3 y141 (ji12)) (ji19)).f0)) ∧ w'.cell? ⟨(ad144.add (((ji19)).toNat * 6)).block, (ad144.add (((ji19)).toNat * 6)).off + 1, none⟩ = some (.int .i64 ((rd_T28 (rd_L3 y141 (ji12)) (ji19)).f1)) ∧ w'.cell? ⟨(ad144.add (((ji19)).toNat * 6)).block, (ad144.add (((ji19)).toNat * 6)).off + 2, none⟩ = some (.int .i64 ((rd_T28 (rd_L3 y141 (ji12)) (ji19)).f2)) ∧ w'.cell? ⟨(ad144.add (((ji19)).toNat * 6)).block, (ad144.add (((ji19)).toNat * 6)).off + 3, none⟩ = some (.int .i64 ((rd_T28 (rd_L3 y141 (ji12)) (ji19)).f3)) ∧ w'.cell? ⟨(ad144.add (((ji19)).toNat * 6)).block, (ad144.add (((ji19)).toNat * 6)).off + 4, none⟩ = some (.int .i64 ((rd_T28 (rd_L3 y141 (ji12)) (ji19)).f4)) ∧ w'.cell? ⟨(ad144.add (((ji19)).toNat * 6)).block, (ad144.add (((ji19)).toNat * 6)).off + 5, none⟩ = some (.string ((rd_T28 (rd_L3 y141 (ji12)) (ji19)).f5))) (ds := [16]) #[false, false, false, false, false, false, false, false, false, false, false, false, false, false, false, false, false] (by kernel_rfl) rfl rfl ⟨(blk_cell BK133.out 0).trans rfl, (blk_cell BK133.out 1).trans rfl, (blk_cell BK133.out 2).trans rfl, (blk_cell BK109.out 0).trans rfl, (blk_cell BK109.out 1).trans rfl, (blk_cell BK109.out 2).trans rfl, hx142_0, hx143_0, hx144_0, hx144_1, hx144_2, hx144_3, hx144_4, hx144_5⟩ (fun hHeld => ?_); refine with_tabW partitalaw16_SmfSame.tab14 partitalaw16_SmfSame.bits14 (fun HT_ HW_ => ?_)
  generalize w95.drew = w96 at HO108 HO114 HO132 HO136 HL137_0 BK101 BK102 BK109 BK115 BK116 BK117 BK133 HB HL142_0 HL143_0 HQ94 HR142_0 HR143_0 hx142_0 hx143_0 hx144_0 hx144_1 hx144_2 hx144_3 hx144_4 hx144_5 hHeld hf96_ m0_ m1_ m2_ m3_ m5_ m6_ m7_ m8_ m9_ m10_ m11_ m12_ ⊢
  refine pureS 0 (some 57) (bs 1 17) ?_
  refine pureS 2 (some 59) (bs 5 17) ?_
  refine pureS 5 (some 62) (bs 37 17) ?_
  refine pureS 6 (some 63) (bs 101 17) ?_
  refine pureS 7 (some 64) (bs 229 17) ?_
  refine pureS 9 (some 66) (bs 741 17) ?_
  refine take_ (i := 1) (N := some 58) (v := ?_) (a' := ?_) (bs 743 17) rfl rfl (take_ofW HT_.out HW_.out (by kernel_rfl)) (fun _ _ _ h => h) (Or.inl ⟨by rfl, ?_⟩) hHeld ?_ ?_
  rotate_left
  · rintro w' ⟨s0, s1, s2, s3, s4, s5, s6, s7, s8, s9, s10, s11, s12, s13⟩
    go_simp
    with_reducible rfl
  rotate_left
  · simp only [Act.put, List.setIfInBounds_toArray, List.set_cons_zero, List.set_cons_succ, i64_w, i32_w]
    rfl
  refine pureS 3 (some 60) (bs 751 17) ?_
  refine take_ (i := 4) (N := some 61) (v := ?_) (a' := ?_) (bs 767 17) rfl rfl (take_ofW HT_.out HW_.out (by kernel_rfl)) (fun _ _ _ h => h) (Or.inl ⟨by rfl, ?_⟩) hHeld ?_ ?_
  rotate_left
  · rintro w' ⟨s0, s1, s2, s3, s4, s5, s6, s7, s8, s9, s10, s11, s12, s13⟩
    go_simp
    with_reducible rfl
  rotate_left
  · simp only [Act.put, List.setIfInBounds_toArray, List.set_cons_zero, List.set_cons_succ, i64_w, i32_w]
    rfl
  refine take_ (i := 8) (N := some 65) (v := ?_) (a' := ?_) (bs 1023 17) rfl rfl (take_ofW HT_.out HW_.out (by kernel_rfl)) (fun _ _ _ h => h) (Or.inl ⟨by rfl, ?_⟩) hHeld ?_ ?_
  rotate_left
  · rintro w' ⟨s0, s1, s2, s3, s4, s5, s6, s7, s8, s9, s10, s11, s12, s13⟩
    go_simp
    with_reducible rfl
  rotate_left
  · simp only [Act.put, List.setIfInBounds_toArray, List.set_cons_zero, List.set_cons_succ, i64_w, i32_w]
    rfl
  refine pureS 10 (some 67) (bs 2047 17) ?_
  refine take_ (i := 11) (N := some 68) (v := ?_) (a' := ?_) (bs 4095 17) rfl rfl (take_ofW HT_.out HW_.out (by kernel_rfl)) (fun _ _ _ h => h) (Or.inl ⟨by rfl, ?_⟩) hHeld ?_ ?_
  rotate_left
  · rintro w' ⟨s0, s1, s2, s3, s4, s5, s6, s7, s8, s9, s10, s11, s12, s13⟩
    go_simp
    with_reducible rfl
  rotate_left
  · simp only [Act.put, List.setIfInBounds_toArray, List.set_cons_zero, List.set_cons_succ, i64_w, i32_w]
    rfl
  refine pureS 12 (some 69) (bs 8191 17) ?_
  refine pureS 13 (some 70) (bs 16383 17) ?_
  refine pureS 14 (some 71) (bs 32767 17) ?_
  refine pureS 15 (some 72) (bs 65535 17) ?_
  refine last_ (i := 16) (N := none) (bs 131071 17) rfl rfl (one_of HT_.out (by kernel_rfl)) (by decide) (fun K hK => ?_)
  refine skip_ (w1 := ?_) (by rfl) rfl ?_ ?_
  rotate_left
  · go_simp
    rfl
  refine hK.out _ _ ?_
  clear hK K
  refine done_ (done_of HT_.out (by kernel_rfl)) ?_
  try go_wp2
  rw [eP_.out]
  clear HO108 HO114 HO132 HO136 HL137_0 BK101 BK102 BK109 BK115 BK116 BK117 BK133 HB
  generalize (w96.setCell ⟨gB, (ji19).toNat * 6, none⟩ (.int .i64 5000)) = w99_ at m0_ m1_ m2_ m3_ m5_ m6_ m7_ m8_ m9_ m10_ m11_ m12_ ⊢
  have HO108 := m0_
  have HO114 := m1_
  have HO132 := m2_
  have HO136 := m3_
  have BK101 := m5_
  have BK102 := m6_
  have BK109 := m7_
  have BK115 := m8_
  have BK116 := m9_
  have BK117 := m10_
  have BK133 := m11_
  have HB := m12_
  clear m0_ m1_ m2_ m3_ m5_ m6_ m7_ m8_ m9_ m10_ m11_ m12_
  replace HO108 := Aside0.mk (Kd.N_drew HO108.out)
  replace HO114 := Aside0.mk (Kd.N_drew HO114.out)
  replace HO132 := Aside0.mk (Kd.N_drew HO132.out)
  replace HO136 := Aside0.mk (Kd.N_drew HO136.out)
  replace BK101 := Aside0.mk (blk_drew BK101.out)
  replace BK102 := Aside0.mk (blk_drew BK102.out)
  replace BK109 := Aside0.mk (blk_drew BK109.out)
  replace BK115 := Aside0.mk (blk_drew BK115.out)
  replace BK116 := Aside0.mk (blk_drew BK116.out)
  replace BK117 := Aside0.mk (blk_drew BK117.out)
  replace BK133 := Aside0.mk (blk_drew BK133.out)
  replace HB := Aside0.mk (below_drew1 HB.out)
  refine start_ (n := 40) (S := fun w' => w'.cell? ⟨gb109, 0, none⟩ = some (.int .i64 t104) ∧ w'.cell? ⟨gb109, 1, none⟩ = some (.int .i64 t105) ∧ w'.cell? ⟨gb109, 2, none⟩ = some (.slice (some ad137) t106.length co45) ∧ w'.cell? ⟨gb115, 0, none⟩ = some (.int .i64 t110) ∧ w'.cell? ⟨gb115, 1, none⟩ = some (.int .i64 t111) ∧ w'.cell? ⟨gb115, 2, none⟩ = some (.slice Ao53 t112.length co53) ∧ w'.cell? ⟨gb116, 0, none⟩ = some (.int .i64 t104) ∧ w'.cell? ⟨gb116, 1, none⟩ = some (.int .i64 (wrap64 (1 + (Int.tmod t105 32767)))) ∧ w'.cell? ⟨gb116, 2, none⟩ = some (.slice (some ad137) t106.length co45) ∧ w'.cell? ⟨gb117, 0, none⟩ = some (.int .i64 t104) ∧ w'.cell? ⟨gb117, 1, none⟩ = some (.int .i64 t105) ∧ w'.cell? ⟨gb117, 2, none⟩ = some (.slice Ao76 y130.length co76) ∧ w'.cell? ⟨gb133, 0, none⟩ = some (.int .i64 t104) ∧ w'.cell? ⟨gb133, 1, none⟩ = some (.int .i64 t105) ∧ w'.cell? ⟨gb133, 2, none⟩ = some (.slice (some ⟨go17, 0, none⟩) y134.length co89) ∧ w'.cell? ⟨gb101, 0, none⟩ = some (.int .i64 a0_0) ∧ w'.cell? ⟨gb101, 1, none⟩ = some (.int .i64 a0_1) ∧ w'.cell? ⟨gb101, 2, none⟩ = some (.slice A0_2 l0_2.length c0_2)) (ds := []) #[false, false, false, false, false, false, false, false, false, false, false, false, false, false, false, false, false, false, false, false, false, false, false, false, false, false, false, false, false, false, false, false, false, false, false, false, false, false, false, false] (by kernel_rfl) rfl rfl ⟨(blk_cell BK109.out 0).trans rfl, (blk_cell BK109.out 1).trans rfl, (blk_cell BK109.out 2).trans rfl, (blk_cell BK115.out 0).trans rfl, (blk_cell BK115.out 1).trans rfl, (blk_cell BK115.out 2).trans rfl, (blk_cell BK116.out 0).trans rfl, (blk_cell BK116.out 1).trans rfl, (blk_cell BK116.out 2).trans rfl, (blk_cell BK117.out 0).trans rfl, (blk_cell BK117.out 1).trans rfl, (blk_cell BK117.out 2).trans rfl, (blk_cell BK133.out 0).trans rfl, (blk_cell BK133.out 1).trans rfl, (blk_cell BK133.out 2).trans rfl, (blk_cell BK101.out 0).trans rfl, (blk_cell BK101.out 1).trans rfl, (blk_cell BK101.out 2).trans rfl⟩ (fun hHeld => ?_); refine with_tabW partitalaw16_SmfSame.tab15 partitalaw16_SmfSame.bits15 (fun HT_ HW_ => ?_)
  generalize w99_.drew = w97 at HO108 HO114 HO132 HO136 BK101 BK102 BK109 BK115 BK116 BK117 BK133 HB hHeld ⊢
  refine pureS 0 (some 73) (bs 1 40) ?_
  refine pureS 1 (some 74) (bs 3 40) ?_
  refine take_ (i := 2) (N := some 75) (v := ?_) (a' := ?_) (bs 7 40) rfl rfl (take_ofW HT_.out HW_.out (by kernel_rfl)) (fun _ _ _ h => h) (Or.inl ⟨by rfl, ?_⟩) hHeld ?_ ?_
  rotate_left
  · rintro w' ⟨s0, s1, s2, s3, s4, s5, s6, s7, s8, s9, s10, s11, s12, s13, s14, s15, s16, s17⟩
    go_simp
    with_reducible rfl
  rotate_left
  · simp only [Act.put, List.setIfInBounds_toArray, List.set_cons_zero, List.set_cons_succ, i64_w, i32_w]
    rfl
  refine take_ (i := 3) (N := some 76) (v := ?_) (a' := ?_) (bs 15 40) rfl rfl (take_ofW HT_.out HW_.out (by kernel_rfl)) (fun _ _ _ h => h) (Or.inl ⟨by rfl, ?_⟩) hHeld ?_ ?_
  rotate_left
  · rintro w' ⟨s0, s1, s2, s3, s4, s5, s6, s7, s8, s9, s10, s11, s12, s13, s14, s15, s16, s17⟩
    go_simp
    with_reducible rfl
  rotate_left
  · simp only [Act.put, List.setIfInBounds_toArray, List.set_cons_zero, List.set_cons_succ, i64_w, i32_w]
    rfl
  refine one_ (i := 4) (N := some 77) (bs 31 40) rfl rfl (one_of HT_.out (by kernel_rfl)) (by decide) (fun K hK => ?_)
  refine goes_ Try.func14 (by kernel_rfl) rfl #[.agg #[.int .i64 t104, .int .i64 t105, .slice (some ad137) t106.length co45], .agg #[.int .i64 t104, .int .i64 t105, .slice (some ad137) t106.length co45]] (by rfl) rfl rfl qq0 ?_
  with_reducible refine (smf_Same.calls k t104 t105 _ _ t106 t104 t105 _ _ t106 true _ ?side1 ?side2 ?side3 ?side4 A22.out).mono ?_
  (case side1 => repeat (first | exact (Kd.N_reads' HO108.out).2.2 | (with_reducible refine Kd.C_alloc ?_ _) | (with_reducible refine Kd.C_drewN ?_ _) | (with_reducible refine Kd.C_drew ?_)))
  (case side2 => exact qq1b)
  (case side3 => repeat (first | exact (Kd.N_reads' HO108.out).2.2 | (with_reducible refine Kd.C_alloc ?_ _) | (with_reducible refine Kd.C_drewN ?_ _) | (with_reducible refine Kd.C_drew ?_)))
  (case side4 => exact qq1b)
  rintro e w98 ⟨rfl, hb⟩
  refine ⟨_, rfl, ?_⟩
  replace HO108 := Aside0.mk (Kd.N_below (qN HO108.out) hb)
  replace HO114 := Aside0.mk (Kd.N_below (qN HO114.out) hb)
  replace HO132 := Aside0.mk (Kd.N_below (qN HO132.out) hb)
  replace HO136 := Aside0.mk (Kd.N_below (qN HO136.out) hb)
  replace BK101 := Aside0.mk (blk_below (bq BK101.out) hb)
  replace BK102 := Aside0.mk (blk_below (bq BK102.out) hb)
  replace BK109 := Aside0.mk (blk_below (bq BK109.out) hb)
  replace BK115 := Aside0.mk (blk_below (bq BK115.out) hb)
  replace BK116 := Aside0.mk (blk_below (g := gb116) (o := .cells #[.int .i64 t104, .int .i64 (wrap64 (1 + (Int.tmod t105 32767))), .slice (some ad137) t106.length co45] 24 (0, 0)) (bq BK116.out) hb)
  replace BK117 := Aside0.mk (blk_below (bq BK117.out) hb)
  replace BK133 := Aside0.mk (blk_below (bq BK133.out) hb)
  replace HB := Aside0.mk (below_step (qS7 GE101 GE102 GE109 GE115 GE116 GE117 GE133 HB.out) hb)
  (try clear hb)
  (try clear hb2)
  (try clear hk)
  (try clear hi)
  refine hK.out _ _ ⟨(blk_cell BK109.out 0).trans rfl, (blk_cell BK109.out 1).trans rfl, (blk_cell BK109.out 2).trans rfl, (blk_cell BK115.out 0).trans rfl, (blk_cell BK115.out 1).trans rfl, (blk_cell BK115.out 2).trans rfl, (blk_cell BK116.out 0).trans rfl, (blk_cell BK116.out 1).trans rfl, (blk_cell BK116.out 2).trans rfl, (blk_cell BK117.out 0).trans rfl, (blk_cell BK117.out 1).trans rfl, (blk_cell BK117.out 2).trans rfl, (blk_cell BK133.out 0).trans rfl, (blk_cell BK133.out 1).trans rfl, (blk_cell BK133.out 2).trans rfl, (blk_cell BK101.out 0).trans rfl, (blk_cell BK101.out 1).trans rfl, (blk_cell BK101.out 2).trans rfl⟩ (fun hHeld => ?_)
  clear hK K
  refine normS (some 77) ?_
  refine pureS 5 (some 78) (bs 63 40) ?_
  refine pureS 6 (some 79) (bs 127 40) ?_
  refine take_ (i := 7) (N := some 80) (v := ?_) (a' := ?_) (bs 255 40) rfl rfl (take_ofW HT_.out HW_.out (by kernel_rfl)) (fun _ _ _ h => h) (Or.inl ⟨by rfl, ?_⟩) hHeld ?_ ?_
  rotate_left
  · rintro w' ⟨s0, s1, s2, s3, s4, s5, s6, s7, s8, s9, s10, s11, s12, s13, s14, s15, s16, s17⟩
    go_simp
    with_reducible rfl
  rotate_left
  · simp only [Act.put, List.setIfInBounds_toArray, List.set_cons_zero, List.set_cons_succ, i64_w, i32_w]
    rfl
  refine take_ (i := 8) (N := some 81) (v := ?_) (a' := ?_) (bs 511 40) rfl rfl (take_ofW HT_.out HW_.out (by kernel_rfl)) (fun _ _ _ h => h) (Or.inl ⟨by rfl, ?_⟩) hHeld ?_ ?_
  rotate_left
  · rintro w' ⟨s0, s1, s2, s3, s4, s5, s6, s7, s8, s9, s10, s11, s12, s13, s14, s15, s16, s17⟩
    go_simp
    with_reducible rfl
  rotate_left
  · simp only [Act.put, List.setIfInBounds_toArray, List.set_cons_zero, List.set_cons_succ, i64_w, i32_w]
    rfl
  refine take_ (i := 10) (N := some 83) (v := ?_) (a' := ?_) (bs 1535 40) rfl rfl (take_ofW HT_.out HW_.out (by kernel_rfl)) (fun _ _ _ h => h) (Or.inl ⟨by rfl, ?_⟩) hHeld ?_ ?_
  rotate_left
  · rintro w' ⟨s0, s1, s2, s3, s4, s5, s6, s7, s8, s9, s10, s11, s12, s13, s14, s15, s16, s17⟩
    go_simp
    with_reducible rfl
  rotate_left
  · simp only [Act.put, List.setIfInBounds_toArray, List.set_cons_zero, List.set_cons_succ, i64_w, i32_w]
    rfl
  refine take_ (i := 11) (N := some 84) (v := ?_) (a' := ?_) (bs 3583 40) rfl rfl (take_ofW HT_.out HW_.out (by kernel_rfl)) (fun _ _ _ h => h) (Or.inl ⟨by rfl, ?_⟩) hHeld ?_ ?_
  rotate_left
  · rintro w' ⟨s0, s1, s2, s3, s4, s5, s6, s7, s8, s9, s10, s11, s12, s13, s14, s15, s16, s17⟩
    go_simp
    with_reducible rfl
  rotate_left
  · simp only [Act.put, List.setIfInBounds_toArray, List.set_cons_zero, List.set_cons_succ, i64_w, i32_w]
    rfl
  refine one_ (i := 9) (N := some 82) (bs 4095 40) rfl rfl (one_of HT_.out (by kernel_rfl)) (by decide) (fun K hK => ?_)
  refine goes_ Try.func14 (by kernel_rfl) rfl #[.agg #[.int .i64 t104, .int .i64 t105, .slice (some ad137) t106.length co45], .agg #[.int .i64 t110, .int .i64 t111, .slice Ao53 t112.length co53]] (by rfl) rfl rfl qq0 ?_
  with_reducible refine (smf_Same.calls k t104 t105 _ _ t106 t110 t111 _ _ t112 t146 _ ?side1 ?side2 ?side3 ?side4 A24.out).mono ?_
  (case side1 => repeat (first | exact (Kd.N_reads' HO108.out).2.2 | (with_reducible refine Kd.C_alloc ?_ _) | (with_reducible refine Kd.C_drewN ?_ _) | (with_reducible refine Kd.C_drew ?_)))
  (case side2 => exact qq1b)
  (case side3 => repeat (first | exact (Kd.N_reads' HO114.out).2.2 | (with_reducible refine Kd.C_alloc ?_ _) | (with_reducible refine Kd.C_drewN ?_ _) | (with_reducible refine Kd.C_drew ?_)))
  (case side4 => exact (Kd.N_reads' HO114.out).2.1)
  rintro e w99 ⟨rfl, hb⟩
  refine ⟨_, rfl, ?_⟩
  replace HO108 := Aside0.mk (Kd.N_below (qN HO108.out) hb)
  replace HO114 := Aside0.mk (Kd.N_below (qN HO114.out) hb)
  replace HO132 := Aside0.mk (Kd.N_below (qN HO132.out) hb)
  replace HO136 := Aside0.mk (Kd.N_below (qN HO136.out) hb)
  replace BK101 := Aside0.mk (blk_below (bq BK101.out) hb)
  replace BK102 := Aside0.mk (blk_below (bq BK102.out) hb)
  replace BK109 := Aside0.mk (blk_below (bq BK109.out) hb)
  replace BK115 := Aside0.mk (blk_below (bq BK115.out) hb)
  replace BK116 := Aside0.mk (blk_below (g := gb116) (o := .cells #[.int .i64 t104, .int .i64 (wrap64 (1 + (Int.tmod t105 32767))), .slice (some ad137) t106.length co45] 24 (0, 0)) (bq BK116.out) hb)
  replace BK117 := Aside0.mk (blk_below (bq BK117.out) hb)
  replace BK133 := Aside0.mk (blk_below (bq BK133.out) hb)
  replace HB := Aside0.mk (below_step (qS7 GE101 GE102 GE109 GE115 GE116 GE117 GE133 HB.out) hb)
  (try clear hb)
  (try clear hb2)
  (try clear hk)
  (try clear hi)
  refine hK.out _ _ ⟨(blk_cell BK109.out 0).trans rfl, (blk_cell BK109.out 1).trans rfl, (blk_cell BK109.out 2).trans rfl, (blk_cell BK115.out 0).trans rfl, (blk_cell BK115.out 1).trans rfl, (blk_cell BK115.out 2).trans rfl, (blk_cell BK116.out 0).trans rfl, (blk_cell BK116.out 1).trans rfl, (blk_cell BK116.out 2).trans rfl, (blk_cell BK117.out 0).trans rfl, (blk_cell BK117.out 1).trans rfl, (blk_cell BK117.out 2).trans rfl, (blk_cell BK133.out 0).trans rfl, (blk_cell BK133.out 1).trans rfl, (blk_cell BK133.out 2).trans rfl, (blk_cell BK101.out 0).trans rfl, (blk_cell BK101.out 1).trans rfl, (blk_cell BK101.out 2).trans rfl⟩ (fun hHeld => ?_)
  clear hK K
  refine normS (some 82) ?_
  refine one_ (i := 12) (N := some 85) (bs 8191 40) rfl rfl (one_of HT_.out (by kernel_rfl)) (by decide) (fun K hK => ?_)
  refine goes_ Try.func14 (by kernel_rfl) rfl #[.agg #[.int .i64 t110, .int .i64 t111, .slice Ao53 t112.length co53], .agg #[.int .i64 t104, .int .i64 t105, .slice (some ad137) t106.length co45]] (by rfl) rfl rfl qq0 ?_
  with_reducible refine (smf_Same.calls k t110 t111 _ _ t112 t104 t105 _ _ t106 t147 _ ?side1 ?side2 ?side3 ?side4 A25.out).mono ?_
  (case side1 => repeat (first | exact (Kd.N_reads' HO114.out).2.2 | (with_reducible refine Kd.C_alloc ?_ _) | (with_reducible refine Kd.C_drewN ?_ _) | (with_reducible refine Kd.C_drew ?_)))
  (case side2 => exact (Kd.N_reads' HO114.out).2.1)
  (case side3 => repeat (first | exact (Kd.N_reads' HO108.out).2.2 | (with_reducible refine Kd.C_alloc ?_ _) | (with_reducible refine Kd.C_drewN ?_ _) | (with_reducible refine Kd.C_drew ?_)))
  (case side4 => exact qq1b)
  rintro e w100 ⟨rfl, hb⟩
  refine ⟨_, rfl, ?_⟩
  replace HO108 := Aside0.mk (Kd.N_below (qN HO108.out) hb)
  replace HO114 := Aside0.mk (Kd.N_below (qN HO114.out) hb)
  replace HO132 := Aside0.mk (Kd.N_below (qN HO132.out) hb)
  replace HO136 := Aside0.mk (Kd.N_below (qN HO136.out) hb)
  replace BK101 := Aside0.mk (blk_below (bq BK101.out) hb)
  replace BK102 := Aside0.mk (blk_below (bq BK102.out) hb)
  replace BK109 := Aside0.mk (blk_below (bq BK109.out) hb)
  replace BK115 := Aside0.mk (blk_below (bq BK115.out) hb)
  replace BK116 := Aside0.mk (blk_below (g := gb116) (o := .cells #[.int .i64 t104, .int .i64 (wrap64 (1 + (Int.tmod t105 32767))), .slice (some ad137) t106.length co45] 24 (0, 0)) (bq BK116.out) hb)
  replace BK117 := Aside0.mk (blk_below (bq BK117.out) hb)
  replace BK133 := Aside0.mk (blk_below (bq BK133.out) hb)
  replace HB := Aside0.mk (below_step (qS7 GE101 GE102 GE109 GE115 GE116 GE117 GE133 HB.out) hb)
  (try clear hb)
  (try clear hb2)
  (try clear hk)
  (try clear hi)
  refine hK.out _ _ ⟨(blk_cell BK109.out 0).trans rfl, (blk_cell BK109.out 1).trans rfl, (blk_cell BK109.out 2).trans rfl, (blk_cell BK115.out 0).trans rfl, (blk_cell BK115.out 1).trans rfl, (blk_cell BK115.out 2).trans rfl, (blk_cell BK116.out 0).trans rfl, (blk_cell BK116.out 1).trans rfl, (blk_cell BK116.out 2).trans rfl, (blk_cell BK117.out 0).trans rfl, (blk_cell BK117.out 1).trans rfl, (blk_cell BK117.out 2).trans rfl, (blk_cell BK133.out 0).trans rfl, (blk_cell BK133.out 1).trans rfl, (blk_cell BK133.out 2).trans rfl, (blk_cell BK101.out 0).trans rfl, (blk_cell BK101.out 1).trans rfl, (blk_cell BK101.out 2).trans rfl⟩ (fun hHeld => ?_)
  clear hK K
  refine normS (some 85) ?_
  refine pureS 13 (some 86) (bs 16383 40) ?_
  refine pureS 14 (some 87) (bs 32767 40) ?_
  refine pureS 15 (some 88) (bs 65535 40) ?_
  refine take_ (i := 16) (N := some 89) (v := ?_) (a' := ?_) (bs 131071 40) rfl rfl (take_ofW HT_.out HW_.out (by kernel_rfl)) (fun _ _ _ h => h) (Or.inl ⟨by rfl, ?_⟩) hHeld ?_ ?_
  rotate_left
  · rintro w' ⟨s0, s1, s2, s3, s4, s5, s6, s7, s8, s9, s10, s11, s12, s13, s14, s15, s16, s17⟩
    go_simp
    with_reducible rfl
  rotate_left
  · simp only [Act.put, List.setIfInBounds_toArray, List.set_cons_zero, List.set_cons_succ, i64_w, i32_w]
    rfl
  refine take_ (i := 17) (N := some 90) (v := ?_) (a' := ?_) (bs 262143 40) rfl rfl (take_ofW HT_.out HW_.out (by kernel_rfl)) (fun _ _ _ h => h) (Or.inl ⟨by rfl, ?_⟩) hHeld ?_ ?_
  rotate_left
  · rintro w' ⟨s0, s1, s2, s3, s4, s5, s6, s7, s8, s9, s10, s11, s12, s13, s14, s15, s16, s17⟩
    go_simp
    with_reducible rfl
  rotate_left
  · simp only [Act.put, List.setIfInBounds_toArray, List.set_cons_zero, List.set_cons_succ, i64_w, i32_w]
    rfl
  refine one_ (i := 18) (N := some 91) (bs 524287 40) rfl rfl (one_of HT_.out (by kernel_rfl)) (by decide) (fun K hK => ?_)
  refine goes_ Try.func14 (by kernel_rfl) rfl #[.agg #[.int .i64 t104, .int .i64 t105, .slice (some ad137) t106.length co45], .agg #[.int .i64 t104, .int .i64 (wrap64 (1 + (Int.tmod t105 32767))), .slice (some ad137) t106.length co45]] (by rfl) rfl rfl qq0 ?_
  with_reducible refine (smf_Same.calls k t104 t105 _ _ t106 t104 (wrap64 (1 + (Int.tmod t105 32767))) _ _ t106 false _ ?side1 ?side2 ?side3 ?side4 A27.out).mono ?_
  (case side1 => repeat (first | exact (Kd.N_reads' HO108.out).2.2 | (with_reducible refine Kd.C_alloc ?_ _) | (with_reducible refine Kd.C_drewN ?_ _) | (with_reducible refine Kd.C_drew ?_)))
  (case side2 => exact qq1b)
  (case side3 => repeat (first | exact (Kd.N_reads' HO108.out).2.2 | (with_reducible refine Kd.C_alloc ?_ _) | (with_reducible refine Kd.C_drewN ?_ _) | (with_reducible refine Kd.C_drew ?_)))
  (case side4 => exact qq1b)
  rintro e w101 ⟨rfl, hb⟩
  refine ⟨_, rfl, ?_⟩
  replace HO108 := Aside0.mk (Kd.N_below (qN HO108.out) hb)
  replace HO114 := Aside0.mk (Kd.N_below (qN HO114.out) hb)
  replace HO132 := Aside0.mk (Kd.N_below (qN HO132.out) hb)
  replace HO136 := Aside0.mk (Kd.N_below (qN HO136.out) hb)
  replace BK101 := Aside0.mk (blk_below (bq BK101.out) hb)
  replace BK102 := Aside0.mk (blk_below (bq BK102.out) hb)
  replace BK109 := Aside0.mk (blk_below (bq BK109.out) hb)
  replace BK115 := Aside0.mk (blk_below (bq BK115.out) hb)
  replace BK116 := Aside0.mk (blk_below (g := gb116) (o := .cells #[.int .i64 t104, .int .i64 (wrap64 (1 + (Int.tmod t105 32767))), .slice (some ad137) t106.length co45] 24 (0, 0)) (bq BK116.out) hb)
  replace BK117 := Aside0.mk (blk_below (bq BK117.out) hb)
  replace BK133 := Aside0.mk (blk_below (bq BK133.out) hb)
  replace HB := Aside0.mk (below_step (qS7 GE101 GE102 GE109 GE115 GE116 GE117 GE133 HB.out) hb)
  (try clear hb)
  (try clear hb2)
  (try clear hk)
  (try clear hi)
  refine hK.out _ _ ⟨(blk_cell BK109.out 0).trans rfl, (blk_cell BK109.out 1).trans rfl, (blk_cell BK109.out 2).trans rfl, (blk_cell BK115.out 0).trans rfl, (blk_cell BK115.out 1).trans rfl, (blk_cell BK115.out 2).trans rfl, (blk_cell BK116.out 0).trans rfl, (blk_cell BK116.out 1).trans rfl, (blk_cell BK116.out 2).trans rfl, (blk_cell BK117.out 0).trans rfl, (blk_cell BK117.out 1).trans rfl, (blk_cell BK117.out 2).trans rfl, (blk_cell BK133.out 0).trans rfl, (blk_cell BK133.out 1).trans rfl, (blk_cell BK133.out 2).trans rfl, (blk_cell BK101.out 0).trans rfl, (blk_cell BK101.out 1).trans rfl, (blk_cell BK101.out 2).trans rfl⟩ (fun hHeld => ?_)
  clear hK K
  refine normS (some 91) ?_
  refine pureS 19 (some 92) (bs 1048575 40) ?_
  refine pureS 20 (some 93) (bs 2097151 40) ?_
  refine pureS 21 (some 94) (bs 4194303 40) ?_
  refine take_ (i := 22) (N := some 95) (v := ?_) (a' := ?_) (bs 8388607 40) rfl rfl (take_ofW HT_.out HW_.out (by kernel_rfl)) (fun _ _ _ h => h) (Or.inl ⟨by rfl, ?_⟩) hHeld ?_ ?_
  rotate_left
  · rintro w' ⟨s0, s1, s2, s3, s4, s5, s6, s7, s8, s9, s10, s11, s12, s13, s14, s15, s16, s17⟩
    go_simp
    with_reducible rfl
  rotate_left
  · simp only [Act.put, List.setIfInBounds_toArray, List.set_cons_zero, List.set_cons_succ, i64_w, i32_w]
    rfl
  refine take_ (i := 23) (N := some 96) (v := ?_) (a' := ?_) (bs 16777215 40) rfl rfl (take_ofW HT_.out HW_.out (by kernel_rfl)) (fun _ _ _ h => h) (Or.inl ⟨by rfl, ?_⟩) hHeld ?_ ?_
  rotate_left
  · rintro w' ⟨s0, s1, s2, s3, s4, s5, s6, s7, s8, s9, s10, s11, s12, s13, s14, s15, s16, s17⟩
    go_simp
    with_reducible rfl
  rotate_left
  · simp only [Act.put, List.setIfInBounds_toArray, List.set_cons_zero, List.set_cons_succ, i64_w, i32_w]
    rfl
  refine one_ (i := 24) (N := some 97) (bs 33554431 40) rfl rfl (one_of HT_.out (by kernel_rfl)) (by decide) (fun K hK => ?_)
  refine goes_ Try.func14 (by kernel_rfl) rfl #[.agg #[.int .i64 t104, .int .i64 t105, .slice (some ad137) t106.length co45], .agg #[.int .i64 t104, .int .i64 t105, .slice Ao76 y130.length co76]] (by rfl) rfl rfl qq0 ?_
  with_reducible refine (smf_Same.calls k t104 t105 _ _ t106 t104 t105 _ _ y130 false _ ?side1 ?side2 ?side3 ?side4 A29.out).mono ?_
  (case side1 => repeat (first | exact (Kd.N_reads' HO108.out).2.2 | (with_reducible refine Kd.C_alloc ?_ _) | (with_reducible refine Kd.C_drewN ?_ _) | (with_reducible refine Kd.C_drew ?_)))
  (case side2 => exact qq1b)
  (case side3 => repeat (first | exact (Kd.N_reads' HO132.out).2.2 | (with_reducible refine Kd.C_alloc ?_ _) | (with_reducible refine Kd.C_drewN ?_ _) | (with_reducible refine Kd.C_drew ?_)))
  (case side4 => exact (Kd.N_reads' HO132.out).2.1)
  rintro e w102 ⟨rfl, hb⟩
  refine ⟨_, rfl, ?_⟩
  replace HO108 := Aside0.mk (Kd.N_below (qN HO108.out) hb)
  replace HO114 := Aside0.mk (Kd.N_below (qN HO114.out) hb)
  replace HO132 := Aside0.mk (Kd.N_below (qN HO132.out) hb)
  replace HO136 := Aside0.mk (Kd.N_below (qN HO136.out) hb)
  replace BK101 := Aside0.mk (blk_below (bq BK101.out) hb)
  replace BK102 := Aside0.mk (blk_below (bq BK102.out) hb)
  replace BK109 := Aside0.mk (blk_below (bq BK109.out) hb)
  replace BK115 := Aside0.mk (blk_below (bq BK115.out) hb)
  replace BK116 := Aside0.mk (blk_below (g := gb116) (o := .cells #[.int .i64 t104, .int .i64 (wrap64 (1 + (Int.tmod t105 32767))), .slice (some ad137) t106.length co45] 24 (0, 0)) (bq BK116.out) hb)
  replace BK117 := Aside0.mk (blk_below (bq BK117.out) hb)
  replace BK133 := Aside0.mk (blk_below (bq BK133.out) hb)
  replace HB := Aside0.mk (below_step (qS7 GE101 GE102 GE109 GE115 GE116 GE117 GE133 HB.out) hb)
  (try clear hb)
  (try clear hb2)
  (try clear hk)
  (try clear hi)
  refine hK.out _ _ ⟨(blk_cell BK109.out 0).trans rfl, (blk_cell BK109.out 1).trans rfl, (blk_cell BK109.out 2).trans rfl, (blk_cell BK115.out 0).trans rfl, (blk_cell BK115.out 1).trans rfl, (blk_cell BK115.out 2).trans rfl, (blk_cell BK116.out 0).trans rfl, (blk_cell BK116.out 1).trans rfl, (blk_cell BK116.out 2).trans rfl, (blk_cell BK117.out 0).trans rfl, (blk_cell BK117.out 1).trans rfl, (blk_cell BK117.out 2).trans rfl, (blk_cell BK133.out 0).trans rfl, (blk_cell BK133.out 1).trans rfl, (blk_cell BK133.out 2).trans rfl, (blk_cell BK101.out 0).trans rfl, (blk_cell BK101.out 1).trans rfl, (blk_cell BK101.out 2).trans rfl⟩ (fun hHeld => ?_)
  clear hK K
  refine normS (some 97) ?_
  refine pureS 25 (some 98) (bs 67108863 40) ?_
  refine pureS 26 (some 99) (bs 134217727 40) ?_
  refine pureS 27 (some 100) (bs 268435455 40) ?_
  refine take_ (i := 28) (N := some 101) (v := ?_) (a' := ?_) (bs 536870911 40) rfl rfl (take_ofW HT_.out HW_.out (by kernel_rfl)) (fun _ _ _ h => h) (Or.inl ⟨by rfl, ?_⟩) hHeld ?_ ?_
  rotate_left
  · rintro w' ⟨s0, s1, s2, s3, s4, s5, s6, s7, s8, s9, s10, s11, s12, s13, s14, s15, s16, s17⟩
    go_simp
    with_reducible rfl
  rotate_left
  · simp only [Act.put, List.setIfInBounds_toArray, List.set_cons_zero, List.set_cons_succ, i64_w, i32_w]
    rfl
  refine take_ (i := 29) (N := some 102) (v := ?_) (a' := ?_) (bs 1073741823 40) rfl rfl (take_ofW HT_.out HW_.out (by kernel_rfl)) (fun _ _ _ h => h) (Or.inl ⟨by rfl, ?_⟩) hHeld ?_ ?_
  rotate_left
  · rintro w' ⟨s0, s1, s2, s3, s4, s5, s6, s7, s8, s9, s10, s11, s12, s13, s14, s15, s16, s17⟩
    go_simp
    with_reducible rfl
  rotate_left
  · simp only [Act.put, List.setIfInBounds_toArray, List.set_cons_zero, List.set_cons_succ, i64_w, i32_w]
    rfl
  refine one_ (i := 30) (N := some 103) (bs 2147483647 40) rfl rfl (one_of HT_.out (by kernel_rfl)) (by decide) (fun K hK => ?_)
  refine goes_ Try.func14 (by kernel_rfl) rfl #[.agg #[.int .i64 t104, .int .i64 t105, .slice (some ad137) t106.length co45], .agg #[.int .i64 t104, .int .i64 t105, .slice (some ⟨go17, 0, none⟩) y149.length co89]] (by rfl) rfl rfl (by (try simp only [List.map_toArray, List.map_cons, List.map_nil]); first | done | (rw [show y149.length = y134.length from (Kd.N_reads' HO136.out).1.symm] <;> rfl) | rfl | (simp only [List.length_drop, List.length_take]; rfl)) ?_
  with_reducible refine (smf_Same.calls k t104 t105 _ _ t106 t104 t105 _ _ y149 false _ ?side1 ?side2 ?side3 ?side4 A31.out).mono ?_
  (case side1 => repeat (first | exact (Kd.N_reads' HO108.out).2.2 | (with_reducible refine Kd.C_alloc ?_ _) | (with_reducible refine Kd.C_drewN ?_ _) | (with_reducible refine Kd.C_drew ?_)))
  (case side2 => exact qq1b)
  (case side3 => repeat (first | exact (Kd.N_reads' HO136.out).2.2 | (with_reducible refine Kd.C_alloc ?_ _) | (with_reducible refine Kd.C_drewN ?_ _) | (with_reducible refine Kd.C_drew ?_)))
  (case side4 => rw [show y149.length = y134.length from (Kd.N_reads' HO136.out).1.symm]; exact (Kd.N_reads' HO136.out).2.1)
  rintro e w103 ⟨rfl, hb⟩
  refine ⟨_, rfl, ?_⟩
  replace HO108 := Aside0.mk (Kd.N_below (qN HO108.out) hb)
  replace HO114 := Aside0.mk (Kd.N_below (qN HO114.out) hb)
  replace HO132 := Aside0.mk (Kd.N_below (qN HO132.out) hb)
  replace HO136 := Aside0.mk (Kd.N_below (qN HO136.out) hb)
  replace BK101 := Aside0.mk (blk_below (bq BK101.out) hb)
  replace BK102 := Aside0.mk (blk_below (bq BK102.out) hb)
  replace BK109 := Aside0.mk (blk_below (bq BK109.out) hb)
  replace BK115 := Aside0.mk (blk_below (bq BK115.out) hb)
  replace BK116 := Aside0.mk (blk_below (g := gb116) (o := .cells #[.int .i64 t104, .int .i64 (wrap64 (1 + (Int.tmod t105 32767))), .slice (some ad137) t106.length co45] 24 (0, 0)) (bq BK116.out) hb)
  replace BK117 := Aside0.mk (blk_below (bq BK117.out) hb)
  replace BK133 := Aside0.mk (blk_below (bq BK133.out) hb)
  replace HB := Aside0.mk (below_step (qS7 GE101 GE102 GE109 GE115 GE116 GE117 GE133 HB.out) hb)
  (try clear hb)
  (try clear hb2)
  (try clear hk)
  (try clear hi)
  refine hK.out _ _ ⟨(blk_cell BK109.out 0).trans rfl, (blk_cell BK109.out 1).trans rfl, (blk_cell BK109.out 2).trans rfl, (blk_cell BK115.out 0).trans rfl, (blk_cell BK115.out 1).trans rfl, (blk_cell BK115.out 2).trans rfl, (blk_cell BK116.out 0).trans rfl, (blk_cell BK116.out 1).trans rfl, (blk_cell BK116.out 2).trans rfl, (blk_cell BK117.out 0).trans rfl, (blk_cell BK117.out 1).trans rfl, (blk_cell BK117.out 2).trans rfl, (blk_cell BK133.out 0).trans rfl, (blk_cell BK133.out 1).trans rfl, (blk_cell BK133.out 2).trans rfl, (blk_cell BK101.out 0).trans rfl, (blk_cell BK101.out 1).trans rfl, (blk_cell BK101.out 2).trans rfl⟩ (fun hHeld => ?_)
  clear hK K
  refine normS (some 103) ?_
  refine pureS 31 (some 104) (bs 4294967295 40) ?_
  refine pureS 32 (some 105) (bs 8589934591 40) ?_
  refine pureS 33 (some 106) (bs 17179869183 40) ?_
  refine take_ (i := 34) (N := some 107) (v := ?_) (a' := ?_) (bs 34359738367 40) rfl rfl (take_ofW HT_.out HW_.out (by kernel_rfl)) (fun _ _ _ h => h) (Or.inl ⟨by rfl, ?_⟩) hHeld ?_ ?_
  rotate_left
  · rintro w' ⟨s0, s1, s2, s3, s4, s5, s6, s7, s8, s9, s10, s11, s12, s13, s14, s15, s16, s17⟩
    go_simp
    with_reducible rfl
  rotate_left
  · simp only [Act.put, List.setIfInBounds_toArray, List.set_cons_zero, List.set_cons_succ, i64_w, i32_w]
    rfl
  refine take_ (i := 35) (N := some 108) (v := ?_) (a' := ?_) (bs 68719476735 40) rfl rfl (take_ofW HT_.out HW_.out (by kernel_rfl)) (fun _ _ _ h => h) (Or.inl ⟨by rfl, ?_⟩) hHeld ?_ ?_
  rotate_left
  · rintro w' ⟨s0, s1, s2, s3, s4, s5, s6, s7, s8, s9, s10, s11, s12, s13, s14, s15, s16, s17⟩
    go_simp
    with_reducible rfl
  rotate_left
  · simp only [Act.put, List.setIfInBounds_toArray, List.set_cons_zero, List.set_cons_succ, i64_w, i32_w]
    rfl
  refine one_ (i := 36) (N := some 109) (bs 137438953471 40) rfl rfl (one_of HT_.out (by kernel_rfl)) (by decide) (fun K hK => ?_)
  refine goes_ Try.func12 (by kernel_rfl) rfl #[.agg #[.int .i64 a0_0, .int .i64 a0_1, .slice A0_2 l0_2.length c0_2]] (by rfl) rfl rfl qq0 ?_
  with_reducible refine (partitalaw16_File.calls k a0_0 a0_1 _ _ l0_2 t151 t152 t153 _ ?side1 ?side2 A33.out).mono ?_
  (case side1 => repeat (first | exact (Kd.C_below HR0_2.out HB.out) | (with_reducible refine Kd.C_alloc ?_ _) | (with_reducible refine Kd.C_drewN ?_ _) | (with_reducible refine Kd.C_drew ?_)))
  (case side2 => exact HC0_2.out)
  rintro e w104 ⟨v154, rfl, ho0, hb⟩
  refine ⟨_, rfl, ?_⟩
  have HO155 := Aside0.mk (Kd.N_lower (Kd.N_mono (ok' := fun k_ => some k_ ≠ (.slice (some ad137) t106.length co45 : Value).ownBlock ∧ some k_ ≠ (.slice Ao53 t112.length co53 : Value).ownBlock ∧ some k_ ≠ (.slice Ao76 y130.length co76 : Value).ownBlock ∧ some k_ ≠ (.slice (some ⟨go17, 0, none⟩) y134.length co89 : Value).ownBlock ∧ k_ ≠ gb101 ∧ k_ ≠ gb102 ∧ k_ ≠ gb109 ∧ k_ ≠ gb115 ∧ k_ ≠ gb116 ∧ k_ ≠ gb117 ∧ k_ ≠ gb133) ho0 (fun k_ hk_ => ⟨(Kd.fresh' (Kd.N_lt (qN HO108.out)) k_ hk_), (Kd.fresh' (Kd.N_lt (qN HO114.out)) k_ hk_), (Kd.fresh' (Kd.N_lt (qN HO132.out)) k_ hk_), (Kd.fresh' (Kd.N_lt (qN HO136.out)) k_ hk_), (Kd.freshB (bq BK101.out) k_ hk_), (Kd.freshB (bq BK102.out) k_ hk_), (Kd.freshB (bq BK109.out) k_ hk_), (Kd.freshB (bq BK115.out) k_ hk_), (Kd.freshB (g := gb116) (o := .cells #[.int .i64 t104, .int .i64 (wrap64 (1 + (Int.tmod t105 32767))), .slice (some ad137) t106.length co45] 24 (0, 0)) (bq BK116.out) k_ hk_), (Kd.freshB (bq BK117.out) k_ hk_), (Kd.freshB (bq BK133.out) k_ hk_)⟩)) (below_size (qS7 GE101 GE102 GE109 GE115 GE116 GE117 GE133 HB.out)))
  replace HO108 := Aside0.mk (Kd.N_elder' (qN HO108.out) qqd hb)
  replace HO114 := Aside0.mk (Kd.N_elder' (qN HO114.out) qqd hb)
  replace HO132 := Aside0.mk (Kd.N_elder' (qN HO132.out) qqd hb)
  replace HO136 := Aside0.mk (Kd.N_elder' (qN HO136.out) qqd hb)
  replace BK101 := Aside0.mk (blk_below (bq BK101.out) hb)
  replace BK102 := Aside0.mk (blk_below (bq BK102.out) hb)
  replace BK109 := Aside0.mk (blk_below (bq BK109.out) hb)
  replace BK115 := Aside0.mk (blk_below (bq BK115.out) hb)
  replace BK116 := Aside0.mk (blk_below (g := gb116) (o := .cells #[.int .i64 t104, .int .i64 (wrap64 (1 + (Int.tmod t105 32767))), .slice (some ad137) t106.length co45] 24 (0, 0)) (bq BK116.out) hb)
  replace BK117 := Aside0.mk (blk_below (bq BK117.out) hb)
  replace BK133 := Aside0.mk (blk_below (bq BK133.out) hb)
  replace HB := Aside0.mk (below_step (qS7 GE101 GE102 GE109 GE115 GE116 GE117 GE133 HB.out) hb)
  (try clear hb)
  (try clear hb2)
  (try clear hk)
  (try clear hi)
  (try clear ho0)
  obtain ⟨Ao105, co105, eo105⟩ := Kd.N_slice HO155.out
  (first | subst eo105 | (injection eo105 with f1_ f2_ f3_; have f4_ := f1_.symm; have f5_ := f3_.symm; clear f1_ f2_ f3_; subst f4_; subst f5_))
  refine hK.out _ _ ⟨(blk_cell BK109.out 0).trans rfl, (blk_cell BK109.out 1).trans rfl, (blk_cell BK109.out 2).trans rfl, (blk_cell BK115.out 0).trans rfl, (blk_cell BK115.out 1).trans rfl, (blk_cell BK115.out 2).trans rfl, (blk_cell BK116.out 0).trans rfl, (blk_cell BK116.out 1).trans rfl, (blk_cell BK116.out 2).trans rfl, (blk_cell BK117.out 0).trans rfl, (blk_cell BK117.out 1).trans rfl, (blk_cell BK117.out 2).trans rfl, (blk_cell BK133.out 0).trans rfl, (blk_cell BK133.out 1).trans rfl, (blk_cell BK133.out 2).trans rfl, (blk_cell BK101.out 0).trans rfl, (blk_cell BK101.out 1).trans rfl, (blk_cell BK101.out 2).trans rfl⟩ (fun hHeld => ?_)
  clear hK K
  refine normS (some 109) ?_
  refine one_ (i := 37) (N := some 110) (bs 274877906943 40) rfl rfl (one_of HT_.out (by kernel_rfl)) (by decide) (fun K hK => ?_)
  refine goes_ Try.func14 (by kernel_rfl) rfl #[.agg #[.int .i64 t104, .int .i64 t105, .slice (some ad137) t106.length co45], .agg #[.int .i64 t151, .int .i64 t152, .slice Ao105 t153.length co105]] (by rfl) rfl rfl qq0 ?_
  with_reducible refine (smf_Same.calls k t104 t105 _ _ t106 t151 t152 _ _ t153 t156 _ ?side1 ?side2 ?side3 ?side4 A34.out).mono ?_
  (case side1 => repeat (first | exact (Kd.N_reads' HO108.out).2.2 | (with_reducible refine Kd.C_alloc ?_ _) | (with_reducible refine Kd.C_drewN ?_ _) | (with_reducible refine Kd.C_drew ?_)))
  (case side2 => exact qq1b)
  (case side3 => repeat (first | exact (Kd.N_reads' HO155.out).2.2 | (with_reducible refine Kd.C_alloc ?_ _) | (with_reducible refine Kd.C_drewN ?_ _) | (with_reducible refine Kd.C_drew ?_)))
  (case side4 => exact (Kd.N_reads' HO155.out).2.1)
  rintro e w106 ⟨rfl, hb⟩
  refine ⟨_, rfl, ?_⟩
  replace HO108 := Aside0.mk (Kd.N_below (qN HO108.out) hb)
  replace HO114 := Aside0.mk (Kd.N_below (qN HO114.out) hb)
  replace HO132 := Aside0.mk (Kd.N_below (qN HO132.out) hb)
  replace HO136 := Aside0.mk (Kd.N_below (qN HO136.out) hb)
  replace HO155 := Aside0.mk (Kd.N_below (qN HO155.out) hb)
  replace BK101 := Aside0.mk (blk_below (bq BK101.out) hb)
  replace BK102 := Aside0.mk (blk_below (bq BK102.out) hb)
  replace BK109 := Aside0.mk (blk_below (bq BK109.out) hb)
  replace BK115 := Aside0.mk (blk_below (bq BK115.out) hb)
  replace BK116 := Aside0.mk (blk_below (g := gb116) (o := .cells #[.int .i64 t104, .int .i64 (wrap64 (1 + (Int.tmod t105 32767))), .slice (some ad137) t106.length co45] 24 (0, 0)) (bq BK116.out) hb)
  replace BK117 := Aside0.mk (blk_below (bq BK117.out) hb)
  replace BK133 := Aside0.mk (blk_below (bq BK133.out) hb)
  replace HB := Aside0.mk (below_step (qS7 GE101 GE102 GE109 GE115 GE116 GE117 GE133 HB.out) hb)
  (try clear hb)
  (try clear hb2)
  (try clear hk)
  (try clear hi)
  refine hK.out _ _ ⟨(blk_cell BK109.out 0).trans rfl, (blk_cell BK109.out 1).trans rfl, (blk_cell BK109.out 2).trans rfl, (blk_cell BK115.out 0).trans rfl, (blk_cell BK115.out 1).trans rfl, (blk_cell BK115.out 2).trans rfl, (blk_cell BK116.out 0).trans rfl, (blk_cell BK116.out 1).trans rfl, (blk_cell BK116.out 2).trans rfl, (blk_cell BK117.out 0).trans rfl, (blk_cell BK117.out 1).trans rfl, (blk_cell BK117.out 2).trans rfl, (blk_cell BK133.out 0).trans rfl, (blk_cell BK133.out 1).trans rfl, (blk_cell BK133.out 2).trans rfl, (blk_cell BK101.out 0).trans rfl, (blk_cell BK101.out 1).trans rfl, (blk_cell BK101.out 2).trans rfl⟩ (fun hHeld => ?_)
  clear hK K
  refine normS (some 110) ?_
  refine pureS 38 (some 111) (bs 549755813887 40) ?_
  refine pureS 39 (some 6) (bs 1099511627775 40) ?_
  refine done_ (done_of HT_.out (by kernel_rfl)) ?_
  try go_wp2
  go_ret
  exact ⟨by first | rfl | (simp [errW_none, errW_some] <;> rfl) | (simp only [← hji12, ← hji19]; first | rfl | (simp [errW_none, errW_some] <;> rfl)) | (simp [*, errW_none, errW_some] <;> rfl), qS7 GE101 GE102 GE109 GE115 GE116 GE117 GE133 HB.out⟩
end Go.Proofs.Ytdmnknhlibaaoaa.M
namespace Go.Proofs.Ytdmnknhlibaaoaa.Z
open Go.RowKit Go.Proofs.YtdmnknhlibaaoaaW.PrintWords Go.Proofs.YtdmnknhlibaaoaaW.PrintLast Go.Proofs.YtdmnknhlibaaoaaW.PrintMore Go.Proofs.Ytdmnknhlibaaoaa.M
set_option linter.unusedVariables false
theorem gm_ne {m : Msg} (h : GM m) : m.f0 ≠ 5000 := h.2.2.2
theorem rd_set28 (l : List S28) (i : Int) (x : S28) (h0 : 0 ≤ i) (h1 : i < (l.length : Int)) : rd_T28 (l.set i.toNat x) i = x := by
  unfold rd_T28
  rw [List.getD_eq_getElem?_getD, List.getElem?_set_self (by omega)]
  rfl
theorem gt_ne {l : List Msg} (h : GT l) {J : Int} (h0 : 0 ≤ J) (h1 : J < (l.length : Int)) : (rd_T28 l J).f0 ≠ 5000 := by
  have hm : rd_T28 l J ∈ l := by
    unfold rd_T28
    rw [List.getD_eq_getElem?_getD, List.getElem?_eq_getElem (by omega)]
    exact List.getElem_mem (by omega)
  obtain ⟨a, rfl, ha, hg⟩ := h
  rcases List.mem_append.1 hm with hm | hm
  · exact gm_ne (hg _ hm)
  · rw [List.mem_singleton.1 hm]
    show (a.length : Int) ≠ 5000
    omega
theorem smfSame {f d f' d' a2 : Int} {L L' : List (List Msg)} (hf : I64 f) (hd : I64 d) (hL : Raws L) (hf' : I64 f') (hd' : I64 d') (hL' : Raws L') (h20 : 0 ≤ a2) (h21 : a2 ≤ 255) : Ev (fun k => partitalaw16_SmfSame.f k f d L f' d' L' a2) true := by
  obtain ⟨f1, d1, a, e1, g1⟩ := file_ev hf hd hL
  obtain ⟨f2, d2, b, e2, g2⟩ := file_ev hf' hd' hL'
  have h1 := gf_fr g1
  have h2 := gf_fr g2
  have hn1 : 1 ≤ a.length := h1.head.2.2.2.1
  have hn2 : a.length ≤ 16 := h1.head.2.2.2.2.1
  have hd1 : 1 ≤ d1 := h1.head.2.1
  have hd2 : d1 ≤ 32767 := h1.head.2.2.1
  have ew : wrap64 a2 = a2 := w64 (by omega) (by omega)
  obtain ⟨k0, k1⟩ := tmod_range (x := wrap64 a2) (n := (a.length : Int)) (by rw [ew]; exact h20) (by omega)
  refine Ev.bind examples_ev (Ev.yes rfl (Ev.bind e1 ?_))
  try dsimp only
  refine Ev.bind e2 ?_
  try dsimp only
  generalize hK : Int.tmod (wrap64 a2) (a.length : Int) = K at k0 k1 ⊢
  have hm : rd_L3 a K ∈ a := by
    have := rdL_mem a K.toNat (by omega)
    rwa [show ((K.toNat : Nat) : Int) = K by omega] at this
  have hg := g1.2.2.2.2.2.2 _ hm
  obtain ⟨hR, hE, hT, hLn⟩ := gt_facts hg
  have hl1 : 1 ≤ (rd_L3 a K).length := by
    obtain ⟨x, hx, _⟩ := hg
    rw [hx, List.length_append]
    exact Nat.le_add_left _ _
  obtain ⟨j0, j1⟩ := tmod_range (x := wrap64 a2) (n := ((rd_L3 a K).length : Int)) (by rw [ew]; exact h20) (by omega)
  have hy : rd_L3 (a.set K.toNat (rd_L3 a K)) K = rd_L3 a K := rd_set3 a K _ k0 k1
  have hod : d1 ≠ wrap64 (1 + Int.tmod d1 32767) := by
    rw [Int.tmod_eq_emod_of_nonneg (by omega), w64 (by omega) (by omega)]
    omega
  have hmore : ∀ x : List Msg, a ≠ a ++ [x] := fun x h => by
    have := congrArg List.length h
    simp at this
  have hturn : a ≠ chg (a.set K.toNat (rd_L3 a K)) a a2 := fun h => by
    have q1 := congrArg (fun t => rd_L3 t K) h
    try dsimp only at q1
    unfold chg at q1
    rw [hK, hy, rd_set3 _ K _ k0 (by rw [List.length_set]; exact k1)] at q1
    have q2 := congrArg (fun l => (rd_T28 l (Int.tmod (wrap64 a2) ((rd_L3 a K).length : Int))).f0) q1
    try dsimp only at q2
    unfold row5 at q2
    rw [rd_set28 _ _ _ j0 j1] at q2
    exact gt_ne hg j0 j1 q2
  refine Ev.yes (by simp; omega) (Ev.bind (Ev.now _) (Ev.bind (Ev.eq (end_f 0)) (Ev.yes (by simp; omega) (Ev.no (by omega) (Ev.bind (Ev.now _) (Ev.yes k0 (Ev.yes k1 (Ev.yes (by simp; omega) (Ev.yes (by simpa using k1) (Ev.bind (Ev.now _) (Ev.no (by omega) (Ev.yes j0 ?_))))))))))))
  simp only [List.nil_append]
  have s1 := Ev.ok (same_ev f1 d1 a f1 d1 a h1.small) (decide_eq_true ⟨rfl, rfl, rfl⟩)
  have s2 := same_ev f1 d1 a f2 d2 b h1.small
  have s3 := same_ev f2 d2 b f1 d1 a h2.small
  have s4 := Ev.ok (same_ev f1 d1 a f1 (wrap64 (1 + Int.tmod d1 32767)) a h1.small) (decide_eq_false (fun h => hod h.2.1))
  have s5 := Ev.ok (same_ev f1 d1 a f1 d1 (a ++ [[endM 0]]) h1.small) (decide_eq_false (fun h => hmore _ h.2.2))
  have s6 := Ev.ok (same_ev f1 d1 a f1 d1 (chg (a.set K.toNat (rd_L3 a K)) a a2) h1.small) (decide_eq_false (fun h => hturn h.2.2))
  have c : (decide (f1 = f2 ∧ d1 = d2 ∧ a = b) == decide (f2 = f1 ∧ d2 = d1 ∧ b = a)) = true := by
    rw [beq_iff_eq]
    exact decide_eq_decide.2 ⟨fun ⟨x, y, z⟩ => ⟨x.symm, y.symm, z.symm⟩, fun ⟨x, y, z⟩ => ⟨x.symm, y.symm, z.symm⟩⟩
  refine Ev.yes (by rw [hy]; exact j1) (Ev.bind s1 (Ev.yes rfl (Ev.bind s2 (Ev.bind s3 (Ev.yes c (Ev.bind s4 (Ev.no (by decide) (Ev.bind s5 (Ev.no (by decide) (Ev.bind s6 (Ev.no (by decide) (Ev.bind e1 ?_))))))))))))
  try dsimp only
  exact Ev.bind s1 (Ev.now _)
end Go.Proofs.Ytdmnknhlibaaoaa.Z
