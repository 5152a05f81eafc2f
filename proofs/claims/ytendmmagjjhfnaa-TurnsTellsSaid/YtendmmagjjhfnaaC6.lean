/- Functions and contracts printed by a program of this session (wip/tools), and texts by hand: Print, Parse, and the plain answers (part 6). -/
import Derived.KernelRfl
import Derived.Deep.Slices
import Derived.Deep.Fields
import Derived.ChangeSame
import Derived.ChangeArms
import Derived.OpenShut
import Derived.Laws.IdiomArrays
import Derived.RowKit
import Derived.WalkKit
import Derived.Test.YtendmmagjjhfnaaCW
import Derived.Test.YtendmmagjjhfnaaC1
import Derived.Test.YtendmmagjjhfnaaC2
import Derived.Test.YtendmmagjjhfnaaC3
import Derived.Test.YtendmmagjjhfnaaC5
import Derived.Test.YtendmmagjjhfnaaC0
namespace Go.Proofs.Ytendmmagjjhfnaa.M
open Go.RowKit Go.Proofs.YtendmmagjjhfnaaW.PrintWords Go.Proofs.YtendmmagjjhfnaaW.PrintLast Go.Proofs.YtendmmagjjhfnaaW.PrintMore
attribute [local go_sem] max2_int min2_int max_two min_two max_three min_three max_four min_four
set_option linter.unusedVariables false
set_option linter.unusedSimpArgs false
def rd_L6 (xs : List (List S38)) (i : Int) : (List S38) := xs.getD i.toNat ([] : List S38)
theorem at_L6 {w : World} {A : Option Addr} {n : Nat} {xs : List (List S38)} (h : Kd.C (Kd.slice 38 k38) w A n xs) (i : Int) (h0 : 0 ≤ i) (h1 : i < n) : ∃ ad A0 c0, A = some ad ∧ w.cell? (ad.add i.toNat) = some (.slice A0 (rd_L6 xs i).length c0) ∧ (rd_L6 xs i).length ≤ c0 ∧ k38.C w A0 (rd_L6 xs i).length (rd_L6 xs i) := by
  obtain ⟨ad, c, e, _, hK, hc0⟩ := Kd.C_get h ([] : List S38) i h0 h1
  have hc : ∀ j u, c[j]? = some u → w.cell? (ad.add (i.toNat * 1 + j)) = some u := hc0
  obtain ⟨A0, c0, rfl, l0, g0⟩ := hK
  exact ⟨ad, A0, c0, e, by have hq := hc 0 _ rfl; rwa [Nat.mul_one, Nat.add_zero] at hq, l0, g0⟩
def partitalaw10_TurnsTells.l0 : Nat → Bool → List (List (S38)) → Int → Int → Option (Bool)
  | 0, _, _, _, _ => none
  | k + 1, x7, x42, x43, x44 => if x44 < x43 then (if 0 ≤ x44 then (if x44 < (x42.length : Int) then ((turns_Check.f k (rd_L6 x42 x44)).bind fun bt117 => ((partitaref10_Check.f k (rd_L6 x42 x44)).bind fun bt119 => ((turns_Unfold.f k (rd_L6 x42 x44)).bind fun bt121 => ((partitaref10_Unfold.f k (rd_L6 x42 x44)).bind fun bt125 => ((turns_Passes.f k (rd_L6 x42 x44)).bind fun bt129 => ((partitaref10_Passes.f k (rd_L6 x42 x44)).bind fun bt133 => (if bt117.1 = bt119.1 then (if bt117.2 = bt119.2 then ((partitalaw10_ints.f k bt121.1 bt125.1).bind fun t137 => (if t137 = true then (if bt121.2 = bt125.2 then ((partitalaw10_ints.f k bt129.1 bt133.1).bind fun t138 => (if t138 = true then (if bt129.2 = bt133.2 then (partitalaw10_TurnsTells.l0 k x7 x42 x43 (wrap64 (x44 + 1))) else (some false)) else (some false))) else (some false)) else (some false))) else (some false)) else (some false)))))))) else (none)) else (none)) else (some x7)
def partitalaw10_TurnsTells.f (k : Nat) (l0 : List (S38)) (l1 : List (S46)) (a2_0 : Int) (a2_1 : Int) (a2_2 : Int) (a2_3 : Int) : Option (Bool) := (partitalaw10_examples.f k).bind fun t102 => (if t102 = true then (if 0 ≤ (mn (l0.length : Int) 60) then (if (mn (l0.length : Int) 60) ≤ (l0.length : Int) then ((partitalaw10_Made.f k l1 a2_0 a2_1 a2_2 a2_3).bind fun t107 => ((partitalaw10_Made.f k l1 0 0 0 0).bind fun t110 => ((some (([(l0.take ((mn (l0.length : Int) 60) : Int).toNat), t107, t110] : List (List (S38))) : List (List (S38)))).bind fun y113 => (partitalaw10_TurnsTells.l0 k t102 y113 (y113.length : Int) 0)))) else (none)) else (none)) else (some false))
theorem partitalaw10_TurnsTells.mono_l : ∀ k, (∀ y0 y1 y2 y3, LeO (partitalaw10_TurnsTells.l0 k y0 y1 y2 y3) (partitalaw10_TurnsTells.l0 (k + 1) y0 y1 y2 y3))
  | 0 => fun _ _ _ _ r h => by simp [partitalaw10_TurnsTells.l0] at h
  | k + 1 => by
    have ih0 := partitalaw10_TurnsTells.mono_l k
    · intro y0 y1 y2 y3
      unfold partitalaw10_TurnsTells.l0
      repeat' first
      | (with_reducible exact ih0 _ _ _ _)
      | (with_reducible exact partitalaw10_ints.mono _ _ _)
      | (with_reducible exact partitaref10_Check.mono _ _)
      | (with_reducible exact partitaref10_Passes.mono _ _)
      | (with_reducible exact partitaref10_Unfold.mono _ _)
      | (with_reducible exact turns_Check.mono _ _)
      | (with_reducible exact turns_Passes.mono _ _)
      | (with_reducible exact turns_Unfold.mono _ _)
      | (with_reducible exact LeO.refl _)
      | (with_reducible refine LeO.ite ?_ ?_)
      | (with_reducible refine LeO.bind ?_ (fun _ => ?_))
theorem partitalaw10_TurnsTells.mono : ∀ a0 a1 a2 a3 a4 a5 k, LeO (partitalaw10_TurnsTells.f k a0 a1 a2 a3 a4 a5) (partitalaw10_TurnsTells.f (k + 1) a0 a1 a2 a3 a4 a5) := by
  intro a0 a1 a2 a3 a4 a5 k
  have ih0 := partitalaw10_TurnsTells.mono_l k
  unfold partitalaw10_TurnsTells.f
  repeat' first
      | (with_reducible exact ih0 _ _ _ _)
      | (with_reducible exact partitalaw10_Made.mono _ _ _ _ _ _)
      | (with_reducible exact partitalaw10_examples.mono _)
      | (with_reducible exact LeO.refl _)
      | (with_reducible refine LeO.ite ?_ ?_)
      | (with_reducible refine LeO.bind ?_ (fun _ => ?_))
def partitalaw10_TurnsTells.T4 : Bool × List (List Nat × List Nat) := (true, [([], []), ([], []), ([1], [1]), ([2], [2]), ([0, 3], [0, 3]), ([], []), ([], []), ([6], [6]), ([], []), ([8], [8]), ([], []), ([10], [10]), ([], []), ([12], [12]), ([5, 7, 9, 11, 13], [5, 7, 9, 11, 13]), ([], []), ([15, 14], [15]), ([4, 14, 16], [4, 14, 16]), ([17], [17]), ([], [])])
def partitalaw10_TurnsTells.B4 : List Nat := [0, 0, 2, 6, 15, 0, 0, 64, 0, 256, 0, 1024, 0, 4096, 16352, 0, 65504, 131071, 262143, 0]
theorem partitalaw10_TurnsTells.tab4 : rtab .any (opsOf Try.f3 4) = partitalaw10_TurnsTells.T4 := by kernel_rfl
theorem partitalaw10_TurnsTells.bits4 : waitsOk partitalaw10_TurnsTells.T4.2 partitalaw10_TurnsTells.B4 = true := by kernel_rfl
set_option maxHeartbeats 8000000 in
set_option maxRecDepth 100000 in
theorem partitalaw10_TurnsTells.calls (k : Nat) (A0 : Option Addr) (c0 : Nat) (l0 : List (S38)) (A1 : Option Addr) (c1 : Nat) (l1 : List (S46)) (a2_0 : Int) (a2_1 : Int) (a2_2 : Int) (a2_3 : Int) (r : Bool) (w : World) (hr0 : Kd.C k38 w A0 l0.length l0) (hc0 : l0.length ≤ c0) (hr1 : Kd.C k46 w A1 l1.length l1) (hc1 : l1.length ≤ c1) (h : partitalaw10_TurnsTells.f k l0 l1 a2_0 a2_1 a2_2 a2_3 = some r) :
    Calls Try.prog 3 #[.slice A0 l0.length c0, .slice A1 l1.length c1, .agg #[.int .u8 a2_0, .int .u8 a2_1, .int .u8 a2_2, .int .u8 a2_3]] w fun e w' => e = .returned (.bool r) ∧ Below w.heap.size w w' := by
  have hu24 := Try.underlying24
  have HR0 := Aside0.mk hr0
  have HC0 := Aside0.mk hc0
  clear hr0 hc0
  have HR1 := Aside0.mk hr1
  have HC1 := Aside0.mk hc1
  clear hr1 hc1
  have HB := Aside0.mk (Below.refl w.heap.size w)
  have H := h
  unfold partitalaw10_TurnsTells.f at H
  clear h
  replace H := Option.bind_eq_some_iff.mp H
  obtain ⟨t102, A40, H⟩ := H
  have A4 := Aside0.mk A40
  clear A40
  by_cases c5 : t102 = true
  rotate_left
  · replace c5 := Bool.eq_false_iff.mpr c5
    subst c5
    have H1 : (some false) = some r := by rw [if_neg (show ¬ (false = true) by decide)] at H; exact H
    clear H
    have H := H1
    clear H1
    obtain rfl := Option.some.inj H
    go_enter Try.func3, Try.ntmps3
    go_wp2_with (first | ((with_reducible refine gate_dst (N := 5) rfl ?_); refine box_event ?hg (N := 5) ?hd (cs := #[.int .u8 a2_0, .int .u8 a2_1, .int .u8 a2_2, .int .u8 a2_3]) (t := 24) ?hr ?_; (case hd => rfl); (case hg => rfl); (case hr => exact qqJ); intro gb101 hg w97 hbox hb; have BK101 := Aside0.mk (hbox); have GW101 := Aside0.mk ((qqg : w.heap.size ≤ gb101)); have GE101 := Aside0.mk ((qqg : w.heap.size ≤ gb101)); replace HB := Aside0.mk (below_step (qB HB.out) hb); clear hb hbox hg) | ((with_reducible refine gate_callee (f := 11) rfl ?_); refine goesL_ (some 22) rfl rfl Try.func11 (by kernel_rfl) rfl #[] rfl (by (try simp only [List.map_toArray, List.map_cons, List.map_nil]); first | done) ?_; (with_reducible refine (partitalaw10_examples.calls k  false _ A4.out).mono ?_); rintro e w98 ⟨rfl, hb⟩; refine ⟨_, rfl, ?_⟩; replace BK101 := Aside0.mk (blk_below (bq BK101.out) hb); replace HB := Aside0.mk (below_step (qS1 GE101 HB.out) hb); ))
    go_ret
    exact ⟨by first | rfl, qS1 GE101 HB.out⟩
  subst c5
  have H1 : (if 0 ≤ (mn (l0.length : Int) 60) then (if (mn (l0.length : Int) 60) ≤ (l0.length : Int) then ((partitalaw10_Made.f k l1 a2_0 a2_1 a2_2 a2_3).bind fun t107 => ((partitalaw10_Made.f k l1 0 0 0 0).bind fun t110 => ((some (([(l0.take ((mn (l0.length : Int) 60) : Int).toNat), t107, t110] : List (List (S38))) : List (List (S38)))).bind fun y113 => (partitalaw10_TurnsTells.l0 k true y113 (y113.length : Int) 0)))) else (none)) else (none)) = some r := by rw [if_pos rfl] at H; exact H
  clear H
  have H := H1
  clear H1
  obtain ⟨ji6, hji6⟩ : ∃ j_ : Int, (mn (l0.length : Int) 60) = j_ := ⟨_, rfl⟩
  replace H : (if 0 ≤ (ji6) then (if (ji6) ≤ (l0.length : Int) then ((partitalaw10_Made.f k l1 a2_0 a2_1 a2_2 a2_3).bind fun t107 => ((partitalaw10_Made.f k l1 0 0 0 0).bind fun t110 => ((some (([(l0.take ((ji6) : Int).toNat), t107, t110] : List (List (S38))) : List (List (S38)))).bind fun y113 => (partitalaw10_TurnsTells.l0 k true y113 (y113.length : Int) 0)))) else (none)) else (none)) = some r := by first | (rw [hji6] at H; exact H)
  (try rw [hji6] at A4)
  (try (have hji6h : ji6 ≤ 60 := by (rw [← hji6]; unfold mn; (repeat' split) <;> omega)))
  (try (have hji6g : ji6 ≤ 64 := by omega))
  (try (have hji6l : 0 ≤ ji6 := by (rw [← hji6]; unfold mn; (repeat' split) <;> omega)))
  (try (have hji6m : 0 ≤ ji6 := by omega))
  have hji6_ : (if 60 < (l0.length : Int) then 60 else (l0.length : Int)) = ji6 := hji6
  by_cases c7 : 0 ≤ (ji6)
  rotate_left
  · rw [if_neg c7] at H
    exact absurd H (by simp)
  rw [if_pos c7] at H
  have c7b0 := eq_true c7
  have c7b1 : decide (0 ≤ (ji6)) = true := decide_eq_true c7
  clear c7
  by_cases c8 : (ji6) ≤ (l0.length : Int)
  rotate_left
  · rw [if_neg c8] at H
    exact absurd H (by simp)
  rw [if_pos c8] at H
  have c8b0 := eq_true c8
  have c8b1 : decide ((ji6) ≤ (l0.length : Int)) = true := decide_eq_true c8
  clear c8
  obtain ⟨y103, hy103⟩ : ∃ y_ : List (S38), y_ = (l0.take ((ji6) : Int).toNat) := ⟨_, rfl⟩
  replace H : ((partitalaw10_Made.f k l1 a2_0 a2_1 a2_2 a2_3).bind fun t107 => ((partitalaw10_Made.f k l1 0 0 0 0).bind fun t110 => ((some (([y103, t107, t110] : List (List (S38))) : List (List (S38)))).bind fun y113 => (partitalaw10_TurnsTells.l0 k true y113 (y113.length : Int) 0)))) = some r := by first | (rw [hy103]; with_reducible exact H)
  have Ny103 := Aside0.mk hy103
  clear hy103
  replace H := Option.bind_eq_some_iff.mp H
  obtain ⟨t107, A90, H⟩ := H
  have A9 := Aside0.mk A90
  clear A90
  replace H := Option.bind_eq_some_iff.mp H
  obtain ⟨t110, A100, H⟩ := H
  have A10 := Aside0.mk A100
  clear A100
  obtain ⟨y113, hy113⟩ : ∃ y_ : List (List (S38)), y_ = (([y103, t107, t110] : List (List (S38)))) := ⟨_, rfl⟩
  replace H : (partitalaw10_TurnsTells.l0 k true y113 (y113.length : Int) 0) = some r := by first | (have H2_ := (Option.bind_some _ _).symm.trans H; rw [hy113]; with_reducible exact H2_)
  have Ny113 := Aside0.mk hy113
  clear hy113
  have H' := Aside0.mk H
  clear H
  go_enter Try.func3, Try.ntmps3
  try go_wp2_with (first | ((with_reducible refine gate_dst (N := 5) rfl ?_); refine box_event ?hg (N := 5) ?hd (cs := #[.int .u8 a2_0, .int .u8 a2_1, .int .u8 a2_2, .int .u8 a2_3]) (t := 24) ?hr ?_; (case hd => rfl); (case hg => rfl); (case hr => exact qqJ); intro gb101 hg w11 hbox hb; have BK101 := Aside0.mk (hbox); have GW101 := Aside0.mk ((qqg : w.heap.size ≤ gb101)); have GE101 := Aside0.mk ((qqg : w.heap.size ≤ gb101)); replace HB := Aside0.mk (below_step (qB HB.out) hb); clear hb hbox hg) | ((with_reducible refine gate_callee (f := 11) rfl ?_); refine goesL_ (some 22) rfl rfl Try.func11 (by kernel_rfl) rfl #[] rfl (by (try simp only [List.map_toArray, List.map_cons, List.map_nil]); first | done) ?_; (with_reducible refine (partitalaw10_examples.calls k  true _ A4.out).mono ?_); rintro e w12 ⟨rfl, hb⟩; refine ⟨_, rfl, ?_⟩; replace BK101 := Aside0.mk (blk_below (bq BK101.out) hb); replace HB := Aside0.mk (below_step (qS1 GE101 HB.out) hb); ))
  replace BK101 := Aside0.mk (blk_drew BK101.out)
  replace HB := Aside0.mk (below_drew1 HB.out)
  have q14 : ((ji6) : Int) ≤ ((l0.length : Int) : Int) := of_decide_eq_true qqp
  obtain ⟨i014, hi014, _, hsz14, _⟩ := info_parts info38
  have hroom14 : l0.length ≤ c0 := HC0.out
  have hC14 : Kd.C k38 _ A0 l0.length l0 := HR0.out
  have hcut14 := cut_to (P := Try.prog) 22 38 .i64 Try.underlying22 hi014 A0 l0.length c0 (ji6) (of_decide_eq_true qqp) q14 hroom14
  have hr14 := Kd.C_take (m := ((ji6) : Int).toNat) hC14 (by omega)
  have hy14 : y103.length = ((ji6) : Int).toNat := (by rw [Ny103.out, List.length_take]; omega)
  rw [← Ny103.out] at hr14
  rw [← hy14] at hcut14
  have HR106 := Aside0.mk hr14
  have HC106 := Aside0.mk (show y103.length ≤ c0 from by omega)
  clear hr14 hC14 hroom14 hi014 hsz14
  have KY14 := Aside0.mk hy14
  clear hy14
  replace q14 := eq_true q14
  refine start_ (n := 20) (S := fun w' => w'.cell? ⟨gb101, 0, none⟩ = some (.int .u8 a2_0) ∧ w'.cell? ⟨gb101, 1, none⟩ = some (.int .u8 a2_1) ∧ w'.cell? ⟨gb101, 2, none⟩ = some (.int .u8 a2_2) ∧ w'.cell? ⟨gb101, 3, none⟩ = some (.int .u8 a2_3)) (ds := []) #[false, false, false, false, false, false, false, false, false, false, false, false, false, false, false, false, false, false, false, false] (by kernel_rfl) rfl rfl ⟨(blk_cell BK101.out 0).trans rfl, (blk_cell BK101.out 1).trans rfl, (blk_cell BK101.out 2).trans rfl, (blk_cell BK101.out 3).trans rfl⟩ (fun hHeld => ?_); refine with_tabW partitalaw10_TurnsTells.tab4 partitalaw10_TurnsTells.bits4 (fun HT_ HW_ => ?_)
  generalize w12.drew = w13 at BK101 HB HR106 hHeld ⊢
  refine pureS 0 (some 25) (bs 1 20) ?_
  refine pureS 1 (some 26) (bs 3 20) ?_
  refine pureS 2 (some 27) (bs 7 20) ?_
  refine pureS 3 (some 28) (bs 15 20) ?_
  refine pureS 4 (some 29) (bs 31 20) ?_
  refine pureS 5 (some 30) (bs 63 20) ?_
  refine pureS 6 (some 31) (bs 127 20) ?_
  refine pureS 8 (some 33) (bs 383 20) ?_
  refine pureS 10 (some 35) (bs 1407 20) ?_
  refine pureS 12 (some 37) (bs 5503 20) ?_
  refine pureS 15 (some 40) (bs 38271 20) ?_
  refine pureS 19 (some 44) (bs 562559 20) ?_
  refine take_ (i := 7) (N := some 32) (v := ?_) (a' := ?_) (bs 562687 20) rfl rfl (take_ofW HT_.out HW_.out (by kernel_rfl)) (fun _ _ _ h => h) (Or.inl ⟨by rfl, ?_⟩) hHeld ?_ ?_
  rotate_left
  · rintro w' ⟨s0, s1, s2, s3⟩
    go_simp
    with_reducible rfl
  rotate_left
  · simp only [Act.put, List.setIfInBounds_toArray, List.set_cons_zero, List.set_cons_succ, i64_w, i32_w]
    rfl
  refine take_ (i := 9) (N := some 34) (v := ?_) (a' := ?_) (bs 563199 20) rfl rfl (take_ofW HT_.out HW_.out (by kernel_rfl)) (fun _ _ _ h => h) (Or.inl ⟨by rfl, ?_⟩) hHeld ?_ ?_
  rotate_left
  · rintro w' ⟨s0, s1, s2, s3⟩
    go_simp
    with_reducible rfl
  rotate_left
  · simp only [Act.put, List.setIfInBounds_toArray, List.set_cons_zero, List.set_cons_succ, i64_w, i32_w]
    rfl
  refine take_ (i := 11) (N := some 36) (v := ?_) (a' := ?_) (bs 565247 20) rfl rfl (take_ofW HT_.out HW_.out (by kernel_rfl)) (fun _ _ _ h => h) (Or.inl ⟨by rfl, ?_⟩) hHeld ?_ ?_
  rotate_left
  · rintro w' ⟨s0, s1, s2, s3⟩
    go_simp
    with_reducible rfl
  rotate_left
  · simp only [Act.put, List.setIfInBounds_toArray, List.set_cons_zero, List.set_cons_succ, i64_w, i32_w]
    rfl
  refine take_ (i := 13) (N := some 38) (v := ?_) (a' := ?_) (bs 573439 20) rfl rfl (take_ofW HT_.out HW_.out (by kernel_rfl)) (fun _ _ _ h => h) (Or.inl ⟨by rfl, ?_⟩) hHeld ?_ ?_
  rotate_left
  · rintro w' ⟨s0, s1, s2, s3⟩
    go_simp
    with_reducible rfl
  rotate_left
  · simp only [Act.put, List.setIfInBounds_toArray, List.set_cons_zero, List.set_cons_succ, i64_w, i32_w]
    rfl
  refine one_ (i := 14) (N := some 39) (bs 589823 20) rfl rfl (one_of HT_.out (by kernel_rfl)) (by decide) (fun K hK => ?_)
  refine goes_ Try.func12 (by kernel_rfl) rfl #[.slice A1 l1.length c1, .int .u8 a2_0, .int .u8 a2_1, .int .u8 a2_2, .int .u8 a2_3] (by rfl) rfl rfl qq4 ?_
  with_reducible refine (partitalaw10_Made.calls k _ _ l1 a2_0 a2_1 a2_2 a2_3 t107 _ ?side1 ?side2 A9.out).mono ?_
  (case side1 => repeat (first | exact (Kd.C_below HR1.out HB.out)))
  (case side2 => exact HC1.out)
  rintro e w15 ⟨v108, rfl, ho0, hb⟩
  refine ⟨_, rfl, ?_⟩
  have HO109 := Aside0.mk (Kd.N_lower (Kd.N_mono (ok' := fun k_ => k_ ≠ gb101) (Kd.S_N (Kd.S_bound ho0)) (fun k_ hk_ => (Kd.freshB (bq BK101.out) k_ hk_.2.1))) (below_size (qS1 GE101 HB.out)))
  replace BK101 := Aside0.mk (blk_below (bq BK101.out) hb)
  replace HB := Aside0.mk (below_step (qS1 GE101 HB.out) hb)
  (try clear hb)
  (try clear hb2)
  (try clear hk)
  (try clear hi)
  (try clear ho0)
  refine hK.out _ _ ⟨(blk_cell BK101.out 0).trans rfl, (blk_cell BK101.out 1).trans rfl, (blk_cell BK101.out 2).trans rfl, (blk_cell BK101.out 3).trans rfl⟩ (fun hHeld => ?_)
  clear hK K
  refine normS (some 39) ?_
  refine one_ (i := 16) (N := some 41) (bs 655359 20) rfl rfl (one_of HT_.out (by kernel_rfl)) (by decide) (fun K hK => ?_)
  refine goes_ Try.func12 (by kernel_rfl) rfl #[.slice A1 l1.length c1, .int .u8 0, .int .u8 0, .int .u8 0, .int .u8 0] (by rfl) rfl rfl qq4 ?_
  with_reducible refine (partitalaw10_Made.calls k _ _ l1 0 0 0 0 t110 _ ?side1 ?side2 A10.out).mono ?_
  (case side1 => repeat (first | exact (Kd.C_below HR1.out HB.out)))
  (case side2 => exact HC1.out)
  rintro e w16 ⟨v111, rfl, ho0, hb⟩
  refine ⟨_, rfl, ?_⟩
  have HO112 := Aside0.mk (Kd.N_lower (Kd.N_mono (ok' := fun k_ => some k_ ≠ (v108 : Value).ownBlock ∧ k_ ≠ gb101) (Kd.S_N (Kd.S_bound ho0)) (fun k_ hk_ => ⟨(Kd.fresh' (Kd.N_lt (qN HO109.out)) k_ hk_.2.1), (Kd.freshB (bq BK101.out) k_ hk_.2.1)⟩)) (below_size (qS1 GE101 HB.out)))
  replace HO109 := Aside0.mk (Kd.N_elder' (qN HO109.out) (by first | exact Kd.S_base ho0) hb)
  replace BK101 := Aside0.mk (blk_below (bq BK101.out) hb)
  replace HB := Aside0.mk (below_step (qS1 GE101 HB.out) hb)
  (try clear hb)
  (try clear hb2)
  (try clear hk)
  (try clear hi)
  (try clear ho0)
  obtain ⟨Ao17, co17, eo17⟩ := Kd.N_slice HO109.out
  (first | subst eo17)
  obtain ⟨Ao18, co18, eo18⟩ := Kd.N_slice HO112.out
  (first | subst eo18)
  refine hK.out _ _ ⟨(blk_cell BK101.out 0).trans rfl, (blk_cell BK101.out 1).trans rfl, (blk_cell BK101.out 2).trans rfl, (blk_cell BK101.out 3).trans rfl⟩ (fun hHeld => ?_)
  clear hK K
  refine normS (some 41) ?_
  refine one_ (i := 17) (N := some 42) (bs 786431 20) rfl rfl (one_of HT_.out (by kernel_rfl)) (by decide) (fun K hK => ?_)
  refine Kd.N_lit_step (Kd.slice 38 k38) _ 22 ?hg (N' := 42) ?hd (xs := ([y103, t107, t110] : List (List (S38)))) (inner := [.slice A0 y103.length c0, .slice Ao17 t107.length co17, .slice Ao18 t110.length co18]) (ok := (fun _ => True)) (okp := (fun _ => True)) ?hr ?hp (fun _ hk => hk) trivial (Below.refl _ _) (Nat.le_refl _) (by simp) ?_; (case hd => rfl); (case hg => rfl); (case hr => exact qqJ); (case hp => exact (Reps.one (show Kd.FK (Kd.slice 38 k38) _ _ y103 [.slice A0 y103.length c0] from Kd.FK_slice_mk HC106.out (fun W_ hW => k38_heap.C (fun k_ hlt => hW k_ trivial hlt) (Kd.C_below HR106.out HB.out))) (Reps.one (show Kd.FK (Kd.slice 38 k38) _ _ t107 [.slice Ao17 t107.length co17] from (Kd.FK_slice_mk (Kd.N_reads' HO109.out).2.1 (Kd.N_F (Kd.N_mono HO109.out (fun _ _ => trivial))))) (Reps.one (show Kd.FK (Kd.slice 38 k38) _ _ t110 [.slice Ao18 t110.length co18] from (Kd.FK_slice_mk (Kd.N_reads' HO112.out).2.1 (Kd.N_F (Kd.N_mono HO112.out (fun _ _ => trivial))))) (Reps.none _ _)))))
  intro v114 wz ho20 hb hg_ hnew_
  clear hg_ hnew_
  (first | rw [← Ny113.out] at ho20)
  have HO115 := Aside0.mk (Kd.N_lower ho20 (below_size (qS1 GE101 HB.out)))
  replace BK101 := Aside0.mk (blk_below (bq BK101.out) hb)
  replace HB := Aside0.mk (below_step (qS1 GE101 HB.out) hb)
  clear HO109 HO112
  clear hb ho20
  obtain ⟨Ao21, co21, eo21⟩ := Kd.N_slice HO115.out
  (first | subst eo21)
  refine hK.out _ _ ⟨(blk_cell BK101.out 0).trans rfl, (blk_cell BK101.out 1).trans rfl, (blk_cell BK101.out 2).trans rfl, (blk_cell BK101.out 3).trans rfl⟩ (fun hHeld => ?_)
  clear hK K
  refine normS (some 42) ?_
  refine pureS 18 (some 43) (bs 1048575 20) ?_
  refine done_ (done_of HT_.out (by kernel_rfl)) ?_
  try go_wp2
  have HRZ := Aside0.mk (Kd.N_reads' HO115.out).2.2
  have HCZ := Aside0.mk (Kd.N_reads' HO115.out).2.1
  have HBW := Aside0.mk HB.out
  clear HB HO115 BK101
  have HB := Aside0.mk (Below.refl wz.heap.size wz)
  go_loopg [44] k (fun kq v44 w' => ∃ (x44_1 : Int), v44 = .int .i64 x44_1 ∧ Aside0 (partitalaw10_TurnsTells.l0 kq true y113 (y113.length : Int) x44_1 = some r) ∧ Aside0 (kq ≤ k) ∧ Aside0 (Below wz.heap.size wz w'))
  case atStart => exact ⟨(0), (by first | rfl), H', ⟨Nat.le_refl _⟩, ⟨qB HB.out⟩⟩
  case round =>
    clear H'
    obtain ⟨x44_1, rfl, HA, HK1, HB⟩ := hrel
    cases gk with
    | zero => exact absurd HA.out (by simp [partitalaw10_TurnsTells.l0])
    | succ k1 =>
      have H := HA.out
      clear HA
      simp only [partitalaw10_TurnsTells.l0] at H
      by_cases c5 : x44_1 < (y113.length : Int)
      rotate_left
      · rw [if_neg c5] at H
        have c5b0 : decide (x44_1 < (y113.length : Int)) = false := decide_eq_false c5
        clear c5
        obtain rfl := Option.some.inj H
        go_wp2
        go_ret
        exact ⟨by first | rfl, below_step HBW.out (qB HB.out)⟩
      rw [if_pos c5] at H
      have c5b0 : decide (x44_1 < (y113.length : Int)) = true := decide_eq_true c5
      clear c5
      by_cases c6 : 0 ≤ x44_1
      rotate_left
      · rw [if_neg c6] at H
        exact absurd H (by simp)
      rw [if_pos c6] at H
      have c6b0 : decide (0 ≤ x44_1) = true := decide_eq_true c6
      clear c6
      by_cases c7 : x44_1 < (y113.length : Int)
      rotate_left
      · rw [if_neg c7] at H
        exact absurd H (by simp)
      rw [if_pos c7] at H
      have c7b0 : decide (x44_1 < (y113.length : Int)) = true := decide_eq_true c7
      clear c7
      replace H := Option.bind_eq_some_iff.mp H
      obtain ⟨⟨t103, t104⟩, A80, H⟩ := H
      have A8 := Aside0.mk A80
      clear A80
      replace H := Option.bind_eq_some_iff.mp H
      obtain ⟨⟨t105, t106⟩, A90, H⟩ := H
      have A9 := Aside0.mk A90
      clear A90
      replace H := Option.bind_eq_some_iff.mp H
      obtain ⟨⟨t107, t108⟩, A100, H⟩ := H
      have A10 := Aside0.mk A100
      clear A100
      replace H := Option.bind_eq_some_iff.mp H
      obtain ⟨⟨t111, t112⟩, A110, H⟩ := H
      have A11 := Aside0.mk A110
      clear A110
      replace H := Option.bind_eq_some_iff.mp H
      obtain ⟨⟨t115, t116⟩, A120, H⟩ := H
      have A12 := Aside0.mk A120
      clear A120
      replace H := Option.bind_eq_some_iff.mp H
      obtain ⟨⟨t119, t120⟩, A130, H⟩ := H
      have A13 := Aside0.mk A130
      clear A130
      by_cases c14 : t103 = t105
      rotate_left
      · rw [if_neg c14] at H
        have c14b0 : (t103 == t105) = false := beq_eq_false_iff_ne.mpr c14
        have c14b1 : (t103 != t105) = true := bne_iff_ne.mpr c14
        obtain rfl := Option.some.inj H
        have p102 : 0 ≤ (x44_1 : Int) := of_decide_eq_true qqp
        have q102 : x44_1 < (y113.length : Int) := of_decide_eq_true qqp
        obtain ⟨ad102, A102_0, c102_0, e102, hx102_0, hl102_0, hi102_0⟩ := at_L6 HRZ.out x44_1 p102 q102
        cases e102
        replace hx102_0 := (HB.out.cell (World.block_lt_of_cell? wz _ hx102_0)).trans hx102_0
        have HR102_0 := Aside0.mk hi102_0
        have HC102_0 := Aside0.mk hl102_0
        clear hi102_0 hl102_0
        replace p102 := eq_true p102
        replace q102 := eq_true q102
        go_wp2_with (first | (go_at_call 13; (with_reducible refine (turns_Check.calls k1 _ _ (rd_L6 y113 x44_1) t103 t104 _ ?side1 ?side2 A8.out).mono ?_); (case side1 => exact qq7); (case side2 => exact qqo); rintro e w74 ⟨rfl, hb⟩; replace HB := Aside0.mk (below_step (qB HB.out) hb); ) | (go_at_call 14; (with_reducible refine (partitaref10_Check.calls k1 _ _ (rd_L6 y113 x44_1) t105 t106 _ ?side1 ?side2 A9.out).mono ?_); (case side1 => exact qq7); (case side2 => exact qqo); rintro e w75 ⟨rfl, hb⟩; replace HB := Aside0.mk (below_step (qB HB.out) hb); ) | (go_at_call 15; (with_reducible refine (turns_Unfold.calls k1 _ _ (rd_L6 y113 x44_1) t107 t108 _ ?side1 ?side2 A10.out).mono ?_); (case side1 => exact qq7); (case side2 => exact qqo); rintro e w76 ⟨v109, rfl, ho0, hb⟩; have HO110 := Aside0.mk (Kd.R_lower ho0 (below_size (qB HB.out))); replace HB := Aside0.mk (below_step (qB HB.out) hb); ) | (go_at_call 16; (with_reducible refine (partitaref10_Unfold.calls k1 _ _ (rd_L6 y113 x44_1) t111 t112 _ ?side1 ?side2 A11.out).mono ?_); (case side1 => exact qq7); (case side2 => exact qqo); rintro e w77 ⟨v113, rfl, ho0, hb⟩; have HO114 := Aside0.mk (Kd.R_lower (Kd.R_new' ho0 (Kd.R_lt (qR HO110.out))) (below_size (qB HB.out))); replace HO110 := Aside0.mk (Kd.R_elder' (qR HO110.out) (Kd.R_base ho0) hb); replace HB := Aside0.mk (below_step (qB HB.out) hb); ) | (go_at_call 17; (with_reducible refine (turns_Passes.calls k1 _ _ (rd_L6 y113 x44_1) t115 t116 _ ?side1 ?side2 A12.out).mono ?_); (case side1 => exact qq7); (case side2 => exact qqo); rintro e w78 ⟨v117, rfl, ho0, hb⟩; have HO118 := Aside0.mk (Kd.R_lower (Kd.R_new' (Kd.R_new' ho0 (Kd.R_lt (qR HO110.out))) (Kd.R_lt (qR HO114.out))) (below_size (qB HB.out))); replace HO110 := Aside0.mk (Kd.R_elder' (qR HO110.out) (Kd.R_base ho0) hb); replace HO114 := Aside0.mk (Kd.R_elder' (qR HO114.out) (Kd.R_base ho0) hb); replace HB := Aside0.mk (below_step (qB HB.out) hb); ) | (go_at_call 18; (with_reducible refine (partitaref10_Passes.calls k1 _ _ (rd_L6 y113 x44_1) t119 t120 _ ?side1 ?side2 A13.out).mono ?_); (case side1 => exact qq7); (case side2 => exact qqo); rintro e w79 ⟨v121, rfl, ho0, hb⟩; have HO122 := Aside0.mk (Kd.R_lower (Kd.R_new' (Kd.R_new' (Kd.R_new' ho0 (Kd.R_lt (qR HO110.out))) (Kd.R_lt (qR HO114.out))) (Kd.R_lt (qR HO118.out))) (below_size (qB HB.out))); replace HO110 := Aside0.mk (Kd.R_elder' (qR HO110.out) (Kd.R_base ho0) hb); replace HO114 := Aside0.mk (Kd.R_elder' (qR HO114.out) (Kd.R_base ho0) hb); replace HO118 := Aside0.mk (Kd.R_elder' (qR HO118.out) (Kd.R_base ho0) hb); replace HB := Aside0.mk (below_step (qB HB.out) hb); ))
        go_ret
        exact ⟨by first | rfl, below_step HBW.out (qB HB.out)⟩
      rw [if_pos c14] at H
      have c14b0 : (t103 == t105) = true := beq_iff_eq.mpr c14
      have c14b1 : (t103 != t105) = false := bne_eq_false_iff_eq.mpr c14
      clear c14
      by_cases c15 : t104 = t106
      rotate_left
      · rw [if_neg c15] at H
        have c15b0 : (t104 == t106) = false := beq_eq_false_iff_ne.mpr c15
        have c15b1 : (t104 != t106) = true := bne_iff_ne.mpr c15
        obtain rfl := Option.some.inj H
        have p102 : 0 ≤ (x44_1 : Int) := of_decide_eq_true qqp
        have q102 : x44_1 < (y113.length : Int) := of_decide_eq_true qqp
        obtain ⟨ad102, A102_0, c102_0, e102, hx102_0, hl102_0, hi102_0⟩ := at_L6 HRZ.out x44_1 p102 q102
        cases e102
        replace hx102_0 := (HB.out.cell (World.block_lt_of_cell? wz _ hx102_0)).trans hx102_0
        have HR102_0 := Aside0.mk hi102_0
        have HC102_0 := Aside0.mk hl102_0
        clear hi102_0 hl102_0
        replace p102 := eq_true p102
        replace q102 := eq_true q102
        go_wp2_with (first | (go_at_call 13; (with_reducible refine (turns_Check.calls k1 _ _ (rd_L6 y113 x44_1) t103 t104 _ ?side1 ?side2 A8.out).mono ?_); (case side1 => exact qq7); (case side2 => exact qqo); rintro e w68 ⟨rfl, hb⟩; replace HB := Aside0.mk (below_step (qB HB.out) hb); ) | (go_at_call 14; (with_reducible refine (partitaref10_Check.calls k1 _ _ (rd_L6 y113 x44_1) t105 t106 _ ?side1 ?side2 A9.out).mono ?_); (case side1 => exact qq7); (case side2 => exact qqo); rintro e w69 ⟨rfl, hb⟩; replace HB := Aside0.mk (below_step (qB HB.out) hb); ) | (go_at_call 15; (with_reducible refine (turns_Unfold.calls k1 _ _ (rd_L6 y113 x44_1) t107 t108 _ ?side1 ?side2 A10.out).mono ?_); (case side1 => exact qq7); (case side2 => exact qqo); rintro e w70 ⟨v109, rfl, ho0, hb⟩; have HO110 := Aside0.mk (Kd.R_lower ho0 (below_size (qB HB.out))); replace HB := Aside0.mk (below_step (qB HB.out) hb); ) | (go_at_call 16; (with_reducible refine (partitaref10_Unfold.calls k1 _ _ (rd_L6 y113 x44_1) t111 t112 _ ?side1 ?side2 A11.out).mono ?_); (case side1 => exact qq7); (case side2 => exact qqo); rintro e w71 ⟨v113, rfl, ho0, hb⟩; have HO114 := Aside0.mk (Kd.R_lower (Kd.R_new' ho0 (Kd.R_lt (qR HO110.out))) (below_size (qB HB.out))); replace HO110 := Aside0.mk (Kd.R_elder' (qR HO110.out) (Kd.R_base ho0) hb); replace HB := Aside0.mk (below_step (qB HB.out) hb); ) | (go_at_call 17; (with_reducible refine (turns_Passes.calls k1 _ _ (rd_L6 y113 x44_1) t115 t116 _ ?side1 ?side2 A12.out).mono ?_); (case side1 => exact qq7); (case side2 => exact qqo); rintro e w72 ⟨v117, rfl, ho0, hb⟩; have HO118 := Aside0.mk (Kd.R_lower (Kd.R_new' (Kd.R_new' ho0 (Kd.R_lt (qR HO110.out))) (Kd.R_lt (qR HO114.out))) (below_size (qB HB.out))); replace HO110 := Aside0.mk (Kd.R_elder' (qR HO110.out) (Kd.R_base ho0) hb); replace HO114 := Aside0.mk (Kd.R_elder' (qR HO114.out) (Kd.R_base ho0) hb); replace HB := Aside0.mk (below_step (qB HB.out) hb); ) | (go_at_call 18; (with_reducible refine (partitaref10_Passes.calls k1 _ _ (rd_L6 y113 x44_1) t119 t120 _ ?side1 ?side2 A13.out).mono ?_); (case side1 => exact qq7); (case side2 => exact qqo); rintro e w73 ⟨v121, rfl, ho0, hb⟩; have HO122 := Aside0.mk (Kd.R_lower (Kd.R_new' (Kd.R_new' (Kd.R_new' ho0 (Kd.R_lt (qR HO110.out))) (Kd.R_lt (qR HO114.out))) (Kd.R_lt (qR HO118.out))) (below_size (qB HB.out))); replace HO110 := Aside0.mk (Kd.R_elder' (qR HO110.out) (Kd.R_base ho0) hb); replace HO114 := Aside0.mk (Kd.R_elder' (qR HO114.out) (Kd.R_base ho0) hb); replace HO118 := Aside0.mk (Kd.R_elder' (qR HO118.out) (Kd.R_base ho0) hb); replace HB := Aside0.mk (below_step (qB HB.out) hb); ))
        go_ret
        exact ⟨by first | rfl, below_step HBW.out (qB HB.out)⟩
      rw [if_pos c15] at H
      have c15b0 : (t104 == t106) = true := beq_iff_eq.mpr c15
      have c15b1 : (t104 != t106) = false := bne_eq_false_iff_eq.mpr c15
      clear c15
      replace H := Option.bind_eq_some_iff.mp H
      obtain ⟨t123, A160, H⟩ := H
      have A16 := Aside0.mk A160
      clear A160
      by_cases c17 : t123 = true
      rotate_left
      · replace c17 := Bool.eq_false_iff.mpr c17
        subst c17
        have H1 : (some false) = some r := by rw [if_neg (show ¬ (false = true) by decide)] at H; exact H
        clear H
        have H := H1
        clear H1
        obtain rfl := Option.some.inj H
        have p102 : 0 ≤ (x44_1 : Int) := of_decide_eq_true qqp
        have q102 : x44_1 < (y113.length : Int) := of_decide_eq_true qqp
        obtain ⟨ad102, A102_0, c102_0, e102, hx102_0, hl102_0, hi102_0⟩ := at_L6 HRZ.out x44_1 p102 q102
        cases e102
        replace hx102_0 := (HB.out.cell (World.block_lt_of_cell? wz _ hx102_0)).trans hx102_0
        have HR102_0 := Aside0.mk hi102_0
        have HC102_0 := Aside0.mk hl102_0
        clear hi102_0 hl102_0
        replace p102 := eq_true p102
        replace q102 := eq_true q102
        go_wp2_with (first | (go_at_call 13; (with_reducible refine (turns_Check.calls k1 _ _ (rd_L6 y113 x44_1) t103 t104 _ ?side1 ?side2 A8.out).mono ?_); (case side1 => exact qq7); (case side2 => exact qqo); rintro e w60 ⟨rfl, hb⟩; replace HB := Aside0.mk (below_step (qB HB.out) hb); ) | (go_at_call 14; (with_reducible refine (partitaref10_Check.calls k1 _ _ (rd_L6 y113 x44_1) t105 t106 _ ?side1 ?side2 A9.out).mono ?_); (case side1 => exact qq7); (case side2 => exact qqo); rintro e w61 ⟨rfl, hb⟩; replace HB := Aside0.mk (below_step (qB HB.out) hb); ) | (go_at_call 15; (with_reducible refine (turns_Unfold.calls k1 _ _ (rd_L6 y113 x44_1) t107 t108 _ ?side1 ?side2 A10.out).mono ?_); (case side1 => exact qq7); (case side2 => exact qqo); rintro e w62 ⟨v109, rfl, ho0, hb⟩; have HO110 := Aside0.mk (Kd.R_lower ho0 (below_size (qB HB.out))); replace HB := Aside0.mk (below_step (qB HB.out) hb); ) | (go_at_call 16; (with_reducible refine (partitaref10_Unfold.calls k1 _ _ (rd_L6 y113 x44_1) t111 t112 _ ?side1 ?side2 A11.out).mono ?_); (case side1 => exact qq7); (case side2 => exact qqo); rintro e w63 ⟨v113, rfl, ho0, hb⟩; have HO114 := Aside0.mk (Kd.R_lower (Kd.R_new' ho0 (Kd.R_lt (qR HO110.out))) (below_size (qB HB.out))); replace HO110 := Aside0.mk (Kd.R_elder' (qR HO110.out) (Kd.R_base ho0) hb); replace HB := Aside0.mk (below_step (qB HB.out) hb); ) | (go_at_call 17; (with_reducible refine (turns_Passes.calls k1 _ _ (rd_L6 y113 x44_1) t115 t116 _ ?side1 ?side2 A12.out).mono ?_); (case side1 => exact qq7); (case side2 => exact qqo); rintro e w64 ⟨v117, rfl, ho0, hb⟩; have HO118 := Aside0.mk (Kd.R_lower (Kd.R_new' (Kd.R_new' ho0 (Kd.R_lt (qR HO110.out))) (Kd.R_lt (qR HO114.out))) (below_size (qB HB.out))); replace HO110 := Aside0.mk (Kd.R_elder' (qR HO110.out) (Kd.R_base ho0) hb); replace HO114 := Aside0.mk (Kd.R_elder' (qR HO114.out) (Kd.R_base ho0) hb); replace HB := Aside0.mk (below_step (qB HB.out) hb); ) | (go_at_call 18; (with_reducible refine (partitaref10_Passes.calls k1 _ _ (rd_L6 y113 x44_1) t119 t120 _ ?side1 ?side2 A13.out).mono ?_); (case side1 => exact qq7); (case side2 => exact qqo); rintro e w65 ⟨v121, rfl, ho0, hb⟩; have HO122 := Aside0.mk (Kd.R_lower (Kd.R_new' (Kd.R_new' (Kd.R_new' ho0 (Kd.R_lt (qR HO110.out))) (Kd.R_lt (qR HO114.out))) (Kd.R_lt (qR HO118.out))) (below_size (qB HB.out))); replace HO110 := Aside0.mk (Kd.R_elder' (qR HO110.out) (Kd.R_base ho0) hb); replace HO114 := Aside0.mk (Kd.R_elder' (qR HO114.out) (Kd.R_base ho0) hb); replace HO118 := Aside0.mk (Kd.R_elder' (qR HO118.out) (Kd.R_base ho0) hb); replace HB := Aside0.mk (below_step (qB HB.out) hb); obtain ⟨Ao66, co66, eo66⟩ := Kd.R_slice HO110.out; subst eo66; obtain ⟨Ao67, co67, eo67⟩ := Kd.R_slice HO114.out; subst eo67) | (go_at_call 19; (with_reducible refine (partitalaw10_ints.calls k1 _ _ t107 _ _ t111 false _ ?side1 ?side2 ?side3 ?side4 A16.out).mono ?_); (case side1 => exact qqO); (case side2 => exact (Kd.R_reads' HO110.out).2.1); (case side3 => exact qqN); (case side4 => exact (Kd.R_reads' HO114.out).2.1); rintro e w' ⟨rfl, ⟨nd, rfl⟩⟩))
        go_ret
        exact ⟨by first | rfl, below_step HBW.out (qB HB.out)⟩
      subst c17
      have H1 : (if t108 = t112 then ((partitalaw10_ints.f k1 t115 t119).bind fun t124 => (if t124 = true then (if t116 = t120 then (partitalaw10_TurnsTells.l0 k1 true y113 (y113.length : Int) (wrap64 (x44_1 + 1))) else (some false)) else (some false))) else (some false)) = some r := by rw [if_pos rfl] at H; exact H
      clear H
      have H := H1
      clear H1
      by_cases c18 : t108 = t112
      rotate_left
      · rw [if_neg c18] at H
        have c18b0 : (t108 == t112) = false := beq_eq_false_iff_ne.mpr c18
        have c18b1 : (t108 != t112) = true := bne_iff_ne.mpr c18
        obtain rfl := Option.some.inj H
        have p102 : 0 ≤ (x44_1 : Int) := of_decide_eq_true qqp
        have q102 : x44_1 < (y113.length : Int) := of_decide_eq_true qqp
        obtain ⟨ad102, A102_0, c102_0, e102, hx102_0, hl102_0, hi102_0⟩ := at_L6 HRZ.out x44_1 p102 q102
        cases e102
        replace hx102_0 := (HB.out.cell (World.block_lt_of_cell? wz _ hx102_0)).trans hx102_0
        have HR102_0 := Aside0.mk hi102_0
        have HC102_0 := Aside0.mk hl102_0
        clear hi102_0 hl102_0
        replace p102 := eq_true p102
        replace q102 := eq_true q102
        go_wp2_with (first | (go_at_call 13; (with_reducible refine (turns_Check.calls k1 _ _ (rd_L6 y113 x44_1) t103 t104 _ ?side1 ?side2 A8.out).mono ?_); (case side1 => exact qq7); (case side2 => exact qqo); rintro e w52 ⟨rfl, hb⟩; replace HB := Aside0.mk (below_step (qB HB.out) hb); ) | (go_at_call 14; (with_reducible refine (partitaref10_Check.calls k1 _ _ (rd_L6 y113 x44_1) t105 t106 _ ?side1 ?side2 A9.out).mono ?_); (case side1 => exact qq7); (case side2 => exact qqo); rintro e w53 ⟨rfl, hb⟩; replace HB := Aside0.mk (below_step (qB HB.out) hb); ) | (go_at_call 15; (with_reducible refine (turns_Unfold.calls k1 _ _ (rd_L6 y113 x44_1) t107 t108 _ ?side1 ?side2 A10.out).mono ?_); (case side1 => exact qq7); (case side2 => exact qqo); rintro e w54 ⟨v109, rfl, ho0, hb⟩; have HO110 := Aside0.mk (Kd.R_lower ho0 (below_size (qB HB.out))); replace HB := Aside0.mk (below_step (qB HB.out) hb); ) | (go_at_call 16; (with_reducible refine (partitaref10_Unfold.calls k1 _ _ (rd_L6 y113 x44_1) t111 t112 _ ?side1 ?side2 A11.out).mono ?_); (case side1 => exact qq7); (case side2 => exact qqo); rintro e w55 ⟨v113, rfl, ho0, hb⟩; have HO114 := Aside0.mk (Kd.R_lower (Kd.R_new' ho0 (Kd.R_lt (qR HO110.out))) (below_size (qB HB.out))); replace HO110 := Aside0.mk (Kd.R_elder' (qR HO110.out) (Kd.R_base ho0) hb); replace HB := Aside0.mk (below_step (qB HB.out) hb); ) | (go_at_call 17; (with_reducible refine (turns_Passes.calls k1 _ _ (rd_L6 y113 x44_1) t115 t116 _ ?side1 ?side2 A12.out).mono ?_); (case side1 => exact qq7); (case side2 => exact qqo); rintro e w56 ⟨v117, rfl, ho0, hb⟩; have HO118 := Aside0.mk (Kd.R_lower (Kd.R_new' (Kd.R_new' ho0 (Kd.R_lt (qR HO110.out))) (Kd.R_lt (qR HO114.out))) (below_size (qB HB.out))); replace HO110 := Aside0.mk (Kd.R_elder' (qR HO110.out) (Kd.R_base ho0) hb); replace HO114 := Aside0.mk (Kd.R_elder' (qR HO114.out) (Kd.R_base ho0) hb); replace HB := Aside0.mk (below_step (qB HB.out) hb); ) | (go_at_call 18; (with_reducible refine (partitaref10_Passes.calls k1 _ _ (rd_L6 y113 x44_1) t119 t120 _ ?side1 ?side2 A13.out).mono ?_); (case side1 => exact qq7); (case side2 => exact qqo); rintro e w57 ⟨v121, rfl, ho0, hb⟩; have HO122 := Aside0.mk (Kd.R_lower (Kd.R_new' (Kd.R_new' (Kd.R_new' ho0 (Kd.R_lt (qR HO110.out))) (Kd.R_lt (qR HO114.out))) (Kd.R_lt (qR HO118.out))) (below_size (qB HB.out))); replace HO110 := Aside0.mk (Kd.R_elder' (qR HO110.out) (Kd.R_base ho0) hb); replace HO114 := Aside0.mk (Kd.R_elder' (qR HO114.out) (Kd.R_base ho0) hb); replace HO118 := Aside0.mk (Kd.R_elder' (qR HO118.out) (Kd.R_base ho0) hb); replace HB := Aside0.mk (below_step (qB HB.out) hb); obtain ⟨Ao58, co58, eo58⟩ := Kd.R_slice HO110.out; subst eo58; obtain ⟨Ao59, co59, eo59⟩ := Kd.R_slice HO114.out; subst eo59) | (go_at_call 19; (with_reducible refine (partitalaw10_ints.calls k1 _ _ t107 _ _ t111 true _ ?side1 ?side2 ?side3 ?side4 A16.out).mono ?_); (case side1 => exact qqO); (case side2 => exact (Kd.R_reads' HO110.out).2.1); (case side3 => exact qqN); (case side4 => exact (Kd.R_reads' HO114.out).2.1); rintro e w' ⟨rfl, ⟨nd, rfl⟩⟩))
        go_ret
        exact ⟨by first | rfl, below_step HBW.out (qB HB.out)⟩
      rw [if_pos c18] at H
      have c18b0 : (t108 == t112) = true := beq_iff_eq.mpr c18
      have c18b1 : (t108 != t112) = false := bne_eq_false_iff_eq.mpr c18
      clear c18
      replace H := Option.bind_eq_some_iff.mp H
      obtain ⟨t124, A190, H⟩ := H
      have A19 := Aside0.mk A190
      clear A190
      by_cases c20 : t124 = true
      rotate_left
      · replace c20 := Bool.eq_false_iff.mpr c20
        subst c20
        have H1 : (some false) = some r := by rw [if_neg (show ¬ (false = true) by decide)] at H; exact H
        clear H
        have H := H1
        clear H1
        obtain rfl := Option.some.inj H
        have p102 : 0 ≤ (x44_1 : Int) := of_decide_eq_true qqp
        have q102 : x44_1 < (y113.length : Int) := of_decide_eq_true qqp
        obtain ⟨ad102, A102_0, c102_0, e102, hx102_0, hl102_0, hi102_0⟩ := at_L6 HRZ.out x44_1 p102 q102
        cases e102
        replace hx102_0 := (HB.out.cell (World.block_lt_of_cell? wz _ hx102_0)).trans hx102_0
        have HR102_0 := Aside0.mk hi102_0
        have HC102_0 := Aside0.mk hl102_0
        clear hi102_0 hl102_0
        replace p102 := eq_true p102
        replace q102 := eq_true q102
        go_wp2_with (first | (go_at_call 13; (with_reducible refine (turns_Check.calls k1 _ _ (rd_L6 y113 x44_1) t103 t104 _ ?side1 ?side2 A8.out).mono ?_); (case side1 => exact qq7); (case side2 => exact qqo); rintro e w42 ⟨rfl, hb⟩; replace HB := Aside0.mk (below_step (qB HB.out) hb); ) | (go_at_call 14; (with_reducible refine (partitaref10_Check.calls k1 _ _ (rd_L6 y113 x44_1) t105 t106 _ ?side1 ?side2 A9.out).mono ?_); (case side1 => exact qq7); (case side2 => exact qqo); rintro e w43 ⟨rfl, hb⟩; replace HB := Aside0.mk (below_step (qB HB.out) hb); ) | (go_at_call 15; (with_reducible refine (turns_Unfold.calls k1 _ _ (rd_L6 y113 x44_1) t107 t108 _ ?side1 ?side2 A10.out).mono ?_); (case side1 => exact qq7); (case side2 => exact qqo); rintro e w44 ⟨v109, rfl, ho0, hb⟩; have HO110 := Aside0.mk (Kd.R_lower ho0 (below_size (qB HB.out))); replace HB := Aside0.mk (below_step (qB HB.out) hb); ) | (go_at_call 16; (with_reducible refine (partitaref10_Unfold.calls k1 _ _ (rd_L6 y113 x44_1) t111 t112 _ ?side1 ?side2 A11.out).mono ?_); (case side1 => exact qq7); (case side2 => exact qqo); rintro e w45 ⟨v113, rfl, ho0, hb⟩; have HO114 := Aside0.mk (Kd.R_lower (Kd.R_new' ho0 (Kd.R_lt (qR HO110.out))) (below_size (qB HB.out))); replace HO110 := Aside0.mk (Kd.R_elder' (qR HO110.out) (Kd.R_base ho0) hb); replace HB := Aside0.mk (below_step (qB HB.out) hb); ) | (go_at_call 17; (with_reducible refine (turns_Passes.calls k1 _ _ (rd_L6 y113 x44_1) t115 t116 _ ?side1 ?side2 A12.out).mono ?_); (case side1 => exact qq7); (case side2 => exact qqo); rintro e w46 ⟨v117, rfl, ho0, hb⟩; have HO118 := Aside0.mk (Kd.R_lower (Kd.R_new' (Kd.R_new' ho0 (Kd.R_lt (qR HO110.out))) (Kd.R_lt (qR HO114.out))) (below_size (qB HB.out))); replace HO110 := Aside0.mk (Kd.R_elder' (qR HO110.out) (Kd.R_base ho0) hb); replace HO114 := Aside0.mk (Kd.R_elder' (qR HO114.out) (Kd.R_base ho0) hb); replace HB := Aside0.mk (below_step (qB HB.out) hb); ) | (go_at_call 18; (with_reducible refine (partitaref10_Passes.calls k1 _ _ (rd_L6 y113 x44_1) t119 t120 _ ?side1 ?side2 A13.out).mono ?_); (case side1 => exact qq7); (case side2 => exact qqo); rintro e w47 ⟨v121, rfl, ho0, hb⟩; have HO122 := Aside0.mk (Kd.R_lower (Kd.R_new' (Kd.R_new' (Kd.R_new' ho0 (Kd.R_lt (qR HO110.out))) (Kd.R_lt (qR HO114.out))) (Kd.R_lt (qR HO118.out))) (below_size (qB HB.out))); replace HO110 := Aside0.mk (Kd.R_elder' (qR HO110.out) (Kd.R_base ho0) hb); replace HO114 := Aside0.mk (Kd.R_elder' (qR HO114.out) (Kd.R_base ho0) hb); replace HO118 := Aside0.mk (Kd.R_elder' (qR HO118.out) (Kd.R_base ho0) hb); replace HB := Aside0.mk (below_step (qB HB.out) hb); obtain ⟨Ao48, co48, eo48⟩ := Kd.R_slice HO110.out; subst eo48; obtain ⟨Ao49, co49, eo49⟩ := Kd.R_slice HO114.out; subst eo49) | (go_at_call 19; (with_reducible refine (partitalaw10_ints.calls k1 _ _ t107 _ _ t111 true _ ?side1 ?side2 ?side3 ?side4 A16.out).mono ?_); (case side1 => exact qqO); (case side2 => exact (Kd.R_reads' HO110.out).2.1); (case side3 => exact qqN); (case side4 => exact (Kd.R_reads' HO114.out).2.1); rintro e w' ⟨rfl, ⟨nd, rfl⟩⟩; obtain ⟨Ao50, co50, eo50⟩ := Kd.R_slice HO118.out; subst eo50; obtain ⟨Ao51, co51, eo51⟩ := Kd.R_slice HO122.out; subst eo51) | (go_at_call 19; (with_reducible refine (partitalaw10_ints.calls k1 _ _ t115 _ _ t119 false _ ?side1 ?side2 ?side3 ?side4 A19.out).mono ?_); (case side1 => repeat (first | exact (Kd.R_reads' HO118.out).2.2)); (case side2 => exact (Kd.R_reads' HO118.out).2.1); (case side3 => repeat (first | exact (Kd.R_reads' HO122.out).2.2)); (case side4 => exact (Kd.R_reads' HO122.out).2.1); rintro e w' ⟨rfl, ⟨nd, rfl⟩⟩))
        go_ret
        exact ⟨by first | rfl, below_step HBW.out (qB HB.out)⟩
      subst c20
      have H1 : (if t116 = t120 then (partitalaw10_TurnsTells.l0 k1 true y113 (y113.length : Int) (wrap64 (x44_1 + 1))) else (some false)) = some r := by rw [if_pos rfl] at H; exact H
      clear H
      have H := H1
      clear H1
      by_cases c21 : t116 = t120
      rotate_left
      · rw [if_neg c21] at H
        have c21b0 : (t116 == t120) = false := beq_eq_false_iff_ne.mpr c21
        have c21b1 : (t116 != t120) = true := bne_iff_ne.mpr c21
        obtain rfl := Option.some.inj H
        have p102 : 0 ≤ (x44_1 : Int) := of_decide_eq_true qqp
        have q102 : x44_1 < (y113.length : Int) := of_decide_eq_true qqp
        obtain ⟨ad102, A102_0, c102_0, e102, hx102_0, hl102_0, hi102_0⟩ := at_L6 HRZ.out x44_1 p102 q102
        cases e102
        replace hx102_0 := (HB.out.cell (World.block_lt_of_cell? wz _ hx102_0)).trans hx102_0
        have HR102_0 := Aside0.mk hi102_0
        have HC102_0 := Aside0.mk hl102_0
        clear hi102_0 hl102_0
        replace p102 := eq_true p102
        replace q102 := eq_true q102
        go_wp2_with (first | (go_at_call 13; (with_reducible refine (turns_Check.calls k1 _ _ (rd_L6 y113 x44_1) t103 t104 _ ?side1 ?side2 A8.out).mono ?_); (case side1 => exact qq7); (case side2 => exact qqo); rintro e w32 ⟨rfl, hb⟩; replace HB := Aside0.mk (below_step (qB HB.out) hb); ) | (go_at_call 14; (with_reducible refine (partitaref10_Check.calls k1 _ _ (rd_L6 y113 x44_1) t105 t106 _ ?side1 ?side2 A9.out).mono ?_); (case side1 => exact qq7); (case side2 => exact qqo); rintro e w33 ⟨rfl, hb⟩; replace HB := Aside0.mk (below_step (qB HB.out) hb); ) | (go_at_call 15; (with_reducible refine (turns_Unfold.calls k1 _ _ (rd_L6 y113 x44_1) t107 t108 _ ?side1 ?side2 A10.out).mono ?_); (case side1 => exact qq7); (case side2 => exact qqo); rintro e w34 ⟨v109, rfl, ho0, hb⟩; have HO110 := Aside0.mk (Kd.R_lower ho0 (below_size (qB HB.out))); replace HB := Aside0.mk (below_step (qB HB.out) hb); ) | (go_at_call 16; (with_reducible refine (partitaref10_Unfold.calls k1 _ _ (rd_L6 y113 x44_1) t111 t112 _ ?side1 ?side2 A11.out).mono ?_); (case side1 => exact qq7); (case side2 => exact qqo); rintro e w35 ⟨v113, rfl, ho0, hb⟩; have HO114 := Aside0.mk (Kd.R_lower (Kd.R_new' ho0 (Kd.R_lt (qR HO110.out))) (below_size (qB HB.out))); replace HO110 := Aside0.mk (Kd.R_elder' (qR HO110.out) (Kd.R_base ho0) hb); replace HB := Aside0.mk (below_step (qB HB.out) hb); ) | (go_at_call 17; (with_reducible refine (turns_Passes.calls k1 _ _ (rd_L6 y113 x44_1) t115 t116 _ ?side1 ?side2 A12.out).mono ?_); (case side1 => exact qq7); (case side2 => exact qqo); rintro e w36 ⟨v117, rfl, ho0, hb⟩; have HO118 := Aside0.mk (Kd.R_lower (Kd.R_new' (Kd.R_new' ho0 (Kd.R_lt (qR HO110.out))) (Kd.R_lt (qR HO114.out))) (below_size (qB HB.out))); replace HO110 := Aside0.mk (Kd.R_elder' (qR HO110.out) (Kd.R_base ho0) hb); replace HO114 := Aside0.mk (Kd.R_elder' (qR HO114.out) (Kd.R_base ho0) hb); replace HB := Aside0.mk (below_step (qB HB.out) hb); ) | (go_at_call 18; (with_reducible refine (partitaref10_Passes.calls k1 _ _ (rd_L6 y113 x44_1) t119 t120 _ ?side1 ?side2 A13.out).mono ?_); (case side1 => exact qq7); (case side2 => exact qqo); rintro e w37 ⟨v121, rfl, ho0, hb⟩; have HO122 := Aside0.mk (Kd.R_lower (Kd.R_new' (Kd.R_new' (Kd.R_new' ho0 (Kd.R_lt (qR HO110.out))) (Kd.R_lt (qR HO114.out))) (Kd.R_lt (qR HO118.out))) (below_size (qB HB.out))); replace HO110 := Aside0.mk (Kd.R_elder' (qR HO110.out) (Kd.R_base ho0) hb); replace HO114 := Aside0.mk (Kd.R_elder' (qR HO114.out) (Kd.R_base ho0) hb); replace HO118 := Aside0.mk (Kd.R_elder' (qR HO118.out) (Kd.R_base ho0) hb); replace HB := Aside0.mk (below_step (qB HB.out) hb); obtain ⟨Ao38, co38, eo38⟩ := Kd.R_slice HO110.out; subst eo38; obtain ⟨Ao39, co39, eo39⟩ := Kd.R_slice HO114.out; subst eo39) | (go_at_call 19; (with_reducible refine (partitalaw10_ints.calls k1 _ _ t107 _ _ t111 true _ ?side1 ?side2 ?side3 ?side4 A16.out).mono ?_); (case side1 => exact qqO); (case side2 => exact (Kd.R_reads' HO110.out).2.1); (case side3 => exact qqN); (case side4 => exact (Kd.R_reads' HO114.out).2.1); rintro e w' ⟨rfl, ⟨nd, rfl⟩⟩; obtain ⟨Ao40, co40, eo40⟩ := Kd.R_slice HO118.out; subst eo40; obtain ⟨Ao41, co41, eo41⟩ := Kd.R_slice HO122.out; subst eo41) | (go_at_call 19; (with_reducible refine (partitalaw10_ints.calls k1 _ _ t115 _ _ t119 true _ ?side1 ?side2 ?side3 ?side4 A19.out).mono ?_); (case side1 => repeat (first | exact (Kd.R_reads' HO118.out).2.2)); (case side2 => exact (Kd.R_reads' HO118.out).2.1); (case side3 => repeat (first | exact (Kd.R_reads' HO122.out).2.2)); (case side4 => exact (Kd.R_reads' HO122.out).2.1); rintro e w' ⟨rfl, ⟨nd, rfl⟩⟩))
        go_ret
        exact ⟨by first | rfl, below_step HBW.out (qB HB.out)⟩
      rw [if_pos c21] at H
      have c21b0 : (t116 == t120) = true := beq_iff_eq.mpr c21
      have c21b1 : (t116 != t120) = false := bne_eq_false_iff_eq.mpr c21
      clear c21
      have H' := Aside0.mk H
      clear H
      have p102 : 0 ≤ (x44_1 : Int) := of_decide_eq_true qqp
      have q102 : x44_1 < (y113.length : Int) := of_decide_eq_true qqp
      obtain ⟨ad102, A102_0, c102_0, e102, hx102_0, hl102_0, hi102_0⟩ := at_L6 HRZ.out x44_1 p102 q102
      cases e102
      replace hx102_0 := (HB.out.cell (World.block_lt_of_cell? wz _ hx102_0)).trans hx102_0
      have HR102_0 := Aside0.mk hi102_0
      have HC102_0 := Aside0.mk hl102_0
      clear hi102_0 hl102_0
      replace p102 := eq_true p102
      replace q102 := eq_true q102
      go_wp2_with (first | (go_at_call 13; (with_reducible refine (turns_Check.calls k1 _ _ (rd_L6 y113 x44_1) t103 t104 _ ?side1 ?side2 A8.out).mono ?_); (case side1 => exact qq7); (case side2 => exact qqo); rintro e w22 ⟨rfl, hb⟩; replace HB := Aside0.mk (below_step (qB HB.out) hb); ) | (go_at_call 14; (with_reducible refine (partitaref10_Check.calls k1 _ _ (rd_L6 y113 x44_1) t105 t106 _ ?side1 ?side2 A9.out).mono ?_); (case side1 => exact qq7); (case side2 => exact qqo); rintro e w23 ⟨rfl, hb⟩; replace HB := Aside0.mk (below_step (qB HB.out) hb); ) | (go_at_call 15; (with_reducible refine (turns_Unfold.calls k1 _ _ (rd_L6 y113 x44_1) t107 t108 _ ?side1 ?side2 A10.out).mono ?_); (case side1 => exact qq7); (case side2 => exact qqo); rintro e w24 ⟨v109, rfl, ho0, hb⟩; have HO110 := Aside0.mk (Kd.R_lower ho0 (below_size (qB HB.out))); replace HB := Aside0.mk (below_step (qB HB.out) hb); ) | (go_at_call 16; (with_reducible refine (partitaref10_Unfold.calls k1 _ _ (rd_L6 y113 x44_1) t111 t112 _ ?side1 ?side2 A11.out).mono ?_); (case side1 => exact qq7); (case side2 => exact qqo); rintro e w25 ⟨v113, rfl, ho0, hb⟩; have HO114 := Aside0.mk (Kd.R_lower (Kd.R_new' ho0 (Kd.R_lt (qR HO110.out))) (below_size (qB HB.out))); replace HO110 := Aside0.mk (Kd.R_elder' (qR HO110.out) (Kd.R_base ho0) hb); replace HB := Aside0.mk (below_step (qB HB.out) hb); ) | (go_at_call 17; (with_reducible refine (turns_Passes.calls k1 _ _ (rd_L6 y113 x44_1) t115 t116 _ ?side1 ?side2 A12.out).mono ?_); (case side1 => exact qq7); (case side2 => exact qqo); rintro e w26 ⟨v117, rfl, ho0, hb⟩; have HO118 := Aside0.mk (Kd.R_lower (Kd.R_new' (Kd.R_new' ho0 (Kd.R_lt (qR HO110.out))) (Kd.R_lt (qR HO114.out))) (below_size (qB HB.out))); replace HO110 := Aside0.mk (Kd.R_elder' (qR HO110.out) (Kd.R_base ho0) hb); replace HO114 := Aside0.mk (Kd.R_elder' (qR HO114.out) (Kd.R_base ho0) hb); replace HB := Aside0.mk (below_step (qB HB.out) hb); ) | (go_at_call 18; (with_reducible refine (partitaref10_Passes.calls k1 _ _ (rd_L6 y113 x44_1) t119 t120 _ ?side1 ?side2 A13.out).mono ?_); (case side1 => exact qq7); (case side2 => exact qqo); rintro e w27 ⟨v121, rfl, ho0, hb⟩; have HO122 := Aside0.mk (Kd.R_lower (Kd.R_new' (Kd.R_new' (Kd.R_new' ho0 (Kd.R_lt (qR HO110.out))) (Kd.R_lt (qR HO114.out))) (Kd.R_lt (qR HO118.out))) (below_size (qB HB.out))); replace HO110 := Aside0.mk (Kd.R_elder' (qR HO110.out) (Kd.R_base ho0) hb); replace HO114 := Aside0.mk (Kd.R_elder' (qR HO114.out) (Kd.R_base ho0) hb); replace HO118 := Aside0.mk (Kd.R_elder' (qR HO118.out) (Kd.R_base ho0) hb); replace HB := Aside0.mk (below_step (qB HB.out) hb); obtain ⟨Ao28, co28, eo28⟩ := Kd.R_slice HO110.out; subst eo28; obtain ⟨Ao29, co29, eo29⟩ := Kd.R_slice HO114.out; subst eo29) | (go_at_call 19; (with_reducible refine (partitalaw10_ints.calls k1 _ _ t107 _ _ t111 true _ ?side1 ?side2 ?side3 ?side4 A16.out).mono ?_); (case side1 => exact qqO); (case side2 => exact (Kd.R_reads' HO110.out).2.1); (case side3 => exact qqN); (case side4 => exact (Kd.R_reads' HO114.out).2.1); rintro e w' ⟨rfl, ⟨nd, rfl⟩⟩; obtain ⟨Ao30, co30, eo30⟩ := Kd.R_slice HO118.out; subst eo30; obtain ⟨Ao31, co31, eo31⟩ := Kd.R_slice HO122.out; subst eo31) | (go_at_call 19; (with_reducible refine (partitalaw10_ints.calls k1 _ _ t115 _ _ t119 true _ ?side1 ?side2 ?side3 ?side4 A19.out).mono ?_); (case side1 => repeat (first | exact (Kd.R_reads' HO118.out).2.2)); (case side2 => exact (Kd.R_reads' HO118.out).2.1); (case side3 => repeat (first | exact (Kd.R_reads' HO122.out).2.2)); (case side4 => exact (Kd.R_reads' HO122.out).2.1); rintro e w' ⟨rfl, ⟨nd, rfl⟩⟩))
      go_roundg k1
      case measure => have := HK1.out; omega
      case rel => exact ⟨(wrap64 (x44_1 + 1)), (by first | rfl), H', ⟨qqP⟩, ⟨qB HB.out⟩⟩
end Go.Proofs.Ytendmmagjjhfnaa.M
namespace Go.Proofs.Ytendmmagjjhfnaa.Z
open Go.RowKit Go.Proofs.YtendmmagjjhfnaaW.PrintWords Go.Proofs.YtendmmagjjhfnaaW.PrintLast Go.Proofs.Ytendmmagjjhfnaa.M
set_option linter.unusedVariables false
set_option linter.unusedSimpArgs false
theorem Ev.yes {α : Type} {c : Prop} [Decidable c] {a b : Nat → Option α} {r : α} (h : c) (k : Ev a r) : Ev (fun n => if c then a n else b n) r := by
  refine k.congr fun n => ?_
  rw [if_pos h]
theorem Ev.no {α : Type} {c : Prop} [Decidable c] {a b : Nat → Option α} {r : α} (h : ¬ c) (k : Ev b r) : Ev (fun n => if c then a n else b n) r := by
  refine k.congr fun n => ?_
  rw [if_neg h]
theorem Ev.eq {α : Type} {x : Option α} {r : α} (h : x = some r) : Ev (fun _ => x) r := ⟨0, fun _ _ => h⟩
theorem Ev.ok {α : Type} {g : Nat → Option α} {r r' : α} (h : Ev g r) (e : r = r') : Ev g r' := e ▸ h
theorem w64 {x : Int} (h0 : -9223372036854775808 ≤ x) (h1 : x ≤ 9223372036854775807) : wrap64 x = x := by unfold wrap64; omega
theorem rd_nat (l : List Int) (i : Nat) (h : i < l.length) : rd l (i : Int) = l[i] := by
  unfold rd
  simp [h]
def endsB (last : Int) : List Int → Bool
  | [] => true
  | n :: r => if n ≤ last then false else if n > 9 then false else endsB n r
def loneB (x : S38) : Bool := decide (x.f1 = 0 ∨ 2 ≤ x.f1 ∧ x.f1 ≤ 9) && decide (0 ≤ x.f7 ∧ x.f7 ≤ 6) && endsB 0 x.f2
theorem lone_l0 (l : List Int) (hl : l.length ≤ 9223372036854775807) (b c : Bool) : ∀ (d i : Nat) (last : Int), d + i = l.length → Ev (fun k => turns_lone.l0 k b c last l (l.length : Int) (i : Int)) (b && c && endsB last (l.drop i))
  | 0, i, last, h => by
    rw [List.drop_of_length_le (by omega)]
    refine Ev.step (fun k => rfl) (Ev.no (by omega) ?_)
    cases b <;> cases c <;> exact Ev.now _
  | d + 1, i, last, h => by
    have hi : i < l.length := by omega
    rw [List.drop_eq_getElem_cons hi, endsB]
    refine Ev.step (fun k => rfl) (Ev.yes (by omega) (Ev.yes (by omega) (Ev.yes (by omega) ?_)))
    rw [rd_nat l i hi]
    by_cases h1 : l[i] ≤ last
    · rw [if_pos h1, Bool.and_false]
      exact Ev.yes h1 (Ev.now _)
    · rw [if_neg h1]
      refine Ev.no h1 ?_
      by_cases h2 : l[i] > 9
      · rw [if_pos h2, Bool.and_false]
        exact Ev.yes h2 (Ev.now _)
      · rw [if_neg h2]
        refine Ev.no h2 ?_
        have e : wrap64 ((i : Int) + 1) = ((i + 1 : Nat) : Int) := by rw [w64 (by omega) (by omega)]; omega
        rw [e]
        exact lone_l0 l hl b c d (i + 1) l[i] (by omega)
theorem lone_ev (x : S38) (h : x.f2.length ≤ 9223372036854775807) : Ev (fun k => loneO k x) (loneB x) := by
  have key : ∀ (b : Bool), Ev (fun k => turns_lone.j0 k b x.f0 x.f1 x.f2 x.f3 x.f4 x.f5 x.f6 x.f7) (b && decide (0 ≤ x.f7 ∧ x.f7 ≤ 6) && endsB 0 x.f2) := by
    intro b
    refine Ev.step (fun k => rfl) ?_
    by_cases h0 : x.f7 ≥ 0
    · refine Ev.yes h0 (Ev.step (fun k => rfl) ?_)
      refine Ev.ok (lone_l0 x.f2 h b (decide (x.f7 ≤ 6)) x.f2.length 0 0 (by omega)) ?_
      have : decide (x.f7 ≤ 6) = decide (0 ≤ x.f7 ∧ x.f7 ≤ 6) := by
        rw [Bool.eq_iff_iff, decide_eq_true_eq, decide_eq_true_eq]; omega
      rw [this]; rfl
    · refine Ev.no h0 (Ev.step (fun k => rfl) ?_)
      refine Ev.ok (lone_l0 x.f2 h b false x.f2.length 0 0 (by omega)) ?_
      have : decide (0 ≤ x.f7 ∧ x.f7 ≤ 6) = false := decide_eq_false (by omega)
      rw [this]; simp
  unfold loneO turns_lone.f loneB
  by_cases h1 : x.f1 = 0
  · refine Ev.yes h1 (Ev.ok (key true) ?_)
    rw [decide_eq_true (show x.f1 = 0 ∨ 2 ≤ x.f1 ∧ x.f1 ≤ 9 from .inl h1)]
  · refine Ev.no h1 ?_
    by_cases h2 : x.f1 ≥ 2
    · refine Ev.yes h2 (Ev.ok (key _) ?_)
      have : decide (x.f1 ≤ 9) = decide (x.f1 = 0 ∨ 2 ≤ x.f1 ∧ x.f1 ≤ 9) := by
        rw [Bool.eq_iff_iff, decide_eq_true_eq, decide_eq_true_eq]; omega
      rw [this]
    · refine Ev.no h2 (Ev.ok (key false) ?_)
      rw [decide_eq_false (show ¬ (x.f1 = 0 ∨ 2 ≤ x.f1 ∧ x.f1 ≤ 9) by omega)]
def chkB (s c j : Int) : Int → List S38 → Option Int
  | _, [] => none
  | i, x :: xs => if loneB x = true then (if againB s c j i x = true then some i else chkB s c j (i + 1) xs) else some i
def Short (l : List S38) : Prop := ∀ x ∈ l, x.f2.length ≤ 9223372036854775807
theorem chkGo_ev (s c j : Int) : ∀ (l : List S38) (i : Int), Short l → Ev (fun k => chkGo k s c j i l) (chkB s c j i l)
  | [], i, _ => Ev.now _
  | x :: xs, i, h => by
    show Ev (fun k => (loneO k x).bind fun b => if b = true then (if againB s c j i x = true then some (some i) else chkGo k s c j (i + 1) xs) else some (some i)) _
    refine Ev.bind (lone_ev x (h x (by simp))) ?_
    rw [chkB]
    by_cases h1 : loneB x = true
    · rw [if_pos h1]
      refine Ev.yes h1 ?_
      by_cases h2 : againB s c j i x = true
      · rw [if_pos h2]
        exact Ev.yes h2 (Ev.now _)
      · rw [if_neg h2]
        exact Ev.no h2 (chkGo_ev s c j xs (i + 1) (fun y hy => h y (by simp [hy])))
    · rw [if_neg h1]
      exact Ev.no h1 (Ev.now _)
def chkR (l : List S38) : Int × Int := match chkB (fi (fun x => x.f3) 0 l) (fi (fun x => x.f4) 0 l) (fi isJump 0 l) 0 l with
  | some i => (i, 100)
  | none => if fi isJump 0 l < 0 then (0, 0) else if lacksB l (fi (fun x => x.f3) 0 l) (fi (fun x => x.f4) 0 l) (rd_T38 l (fi isJump 0 l)).f7 = true then (fi isJump 0 l, 100) else (0, 0)
theorem check_ev (l : List S38) (hl : l.length ≤ 140737488351232) (h : Short l) : Ev (fun k => turns_Check.f k l) (chkR l) := by
  unfold turns_Check.f
  refine Ev.yes hl ?_
  refine Ev.bind (chkGo_ev _ _ _ l 0 h) ?_
  refine Ev.eq ?_
  unfold chkEnd chkR
  cases chkB (fi (fun x => x.f3) 0 l) (fi (fun x => x.f4) 0 l) (fi isJump 0 l) 0 l with
  | some i => rfl
  | none =>
    dsimp only
    split
    · rfl
    · split <;> rfl
theorem fi_drop (p : S38 → Bool) (l : List S38) : ∀ (d k : Nat), d + k = l.length → (fi p k (l.drop k) = -1 ∧ (∀ i, k ≤ i → i < l.length → p (rd_T38 l (i : Int)) = false)) ∨
    (∃ i, k ≤ i ∧ i < l.length ∧ fi p k (l.drop k) = i ∧ p (rd_T38 l (i : Int)) = true ∧ ∀ i', k ≤ i' → i' < i → p (rd_T38 l (i' : Int)) = false)
  | 0, k, h => .inl ⟨by rw [List.drop_of_length_le (by omega)]; rfl, fun i h1 h2 => by omega⟩
  | d + 1, k, h => by
    have hk : k < l.length := by omega
    cases hp : p (rd_T38 l (k : Int)) with
    | true => exact .inr ⟨k, Nat.le_refl _, hk, fi_yes p l k hk hp, hp, fun i' h1 h2 => by omega⟩
    | false =>
      rw [fi_no p l k hk hp]
      rcases fi_drop p l d (k + 1) (by omega) with ⟨h1, h2⟩ | ⟨i, h1, h2, h3, h4, h5⟩
      · refine .inl ⟨h1, fun i hi hi2 => ?_⟩
        rcases Nat.eq_or_lt_of_le hi with rfl | hlt
        · exact hp
        · exact h2 i hlt hi2
      · refine .inr ⟨i, by omega, h2, h3, h4, fun i' hi hi2 => ?_⟩
        rcases Nat.eq_or_lt_of_le hi with rfl | hlt
        · exact hp
        · exact h5 i' hlt hi2
theorem fi_spec (p : S38 → Bool) (l : List S38) : (fi p 0 l = -1 ∧ (∀ i, i < l.length → p (rd_T38 l (i : Int)) = false)) ∨
    (∃ i, i < l.length ∧ fi p 0 l = (i : Nat) ∧ p (rd_T38 l (i : Int)) = true ∧ ∀ i', i' < i → p (rd_T38 l (i' : Int)) = false) := by
  rcases fi_drop p l l.length 0 (by omega) with ⟨h1, h2⟩ | ⟨i, h1, h2, h3, h4, h5⟩
  · exact .inl ⟨h1, fun i hi => h2 i (by omega) hi⟩
  · exact .inr ⟨i, h2, h3, h4, fun i' hi => h5 i' (by omega) hi⟩
def Once (p : S38 → Bool) (l : List S38) : Prop := ∀ i i' : Nat, i < l.length → i' < l.length → p (rd_T38 l (i : Int)) = true → p (rd_T38 l (i' : Int)) = true → i = i'
theorem once_fi {p : S38 → Bool} {l : List S38} (h : Once p l) {i : Nat} (hi : i < l.length) (hp : p (rd_T38 l (i : Int)) = true) : fi p 0 l = i := by
  rcases fi_spec p l with ⟨_, h2⟩ | ⟨i', h1, h2, h3, _⟩
  · rw [h2 i hi] at hp; cases hp
  · rw [h2, h i i' hi h1 hp h3]
structure Okay (l : List S38) : Prop where
  lone : ∀ i : Nat, i < l.length → loneB (rd_T38 l (i : Int)) = true
  sign : Once (fun x => x.f3) l
  coda : Once (fun x => x.f4) l
  jump : Once isJump l
end Go.Proofs.Ytendmmagjjhfnaa.Z
namespace Go.Proofs.Ytendmmagjjhfnaa.Z
open Go.RowKit Go.Proofs.YtendmmagjjhfnaaW.PrintWords Go.Proofs.YtendmmagjjhfnaaW.PrintLast Go.Proofs.Ytendmmagjjhfnaa.M
set_option linter.unusedVariables false
set_option linter.unusedSimpArgs false
theorem index_l0 (l : List Int) (hl : l.length ≤ 9223372036854775807) (a : Int) : ∀ (d i : Nat), d + i = l.length → ∃ r : Int, Ev (fun k => slices_Index_int_int.l0 k l a (l.length : Int) (i : Int)) r ∧ (0 ≤ r ↔ a ∈ l.drop i)
  | 0, i, h => ⟨-1, Ev.step (fun k => rfl) (Ev.no (by omega) (Ev.now _)), by rw [List.drop_of_length_le (by omega)]; simp⟩
  | d + 1, i, h => by
    have hi : i < l.length := by omega
    by_cases ha : a = l[i]
    · refine ⟨(i : Int), Ev.step (fun k => rfl) (Ev.yes (by omega) (Ev.yes (by omega) (Ev.yes (by omega) (Ev.yes (by rw [rd_nat l i hi]; exact ha) (Ev.now _))))), ?_⟩
      rw [List.drop_eq_getElem_cons hi, ha]
      exact ⟨fun _ => List.mem_cons_self, fun _ => by omega⟩
    · obtain ⟨r, h1, h2⟩ := index_l0 l hl a d (i + 1) (by omega)
      refine ⟨r, Ev.step (fun k => rfl) (Ev.yes (by omega) (Ev.yes (by omega) (Ev.yes (by omega) (Ev.no (by rw [rd_nat l i hi]; exact ha) ?_)))), ?_⟩
      · have e : wrap64 ((i : Int) + 1) = ((i + 1 : Nat) : Int) := by rw [w64 (by omega) (by omega)]; omega
        rw [e]; exact h1
      · rw [h2, List.drop_eq_getElem_cons hi, List.mem_cons]
        exact ⟨fun h => .inr h, fun h => h.resolve_left ha⟩
theorem contains_ev (l : List Int) (hl : l.length ≤ 9223372036854775807) (a : Int) : Ev (fun k => slices_Contains_int_int.f k l a) (decide (a ∈ l)) := by
  obtain ⟨r, h1, h2⟩ := index_l0 l hl a l.length 0 (by omega)
  unfold slices_Contains_int_int.f slices_Index_int_int.f
  refine Ev.bind h1 (Ev.eq ?_)
  rw [List.drop_zero] at h2
  have : decide (r ≥ 0) = decide (a ∈ l) := by rw [Bool.eq_iff_iff, decide_eq_true_eq, decide_eq_true_eq]; exact h2
  rw [this]
theorem equal_l0 (a b : List Int) (hab : a.length = b.length) (hl : a.length ≤ 9223372036854775807) : ∀ (d i : Nat), d + i = a.length → Ev (fun k => slices_Equal_int_int.l0 k a b (a.length : Int) (i : Int)) (decide (a.drop i = b.drop i))
  | 0, i, h => Ev.ok (Ev.step (fun k => rfl) (Ev.no (by omega) (Ev.now _))) qqK
  | d + 1, i, h => by
    have hi : i < a.length := by omega
    have hi2 : i < b.length := by omega
    rw [List.drop_eq_getElem_cons hi, List.drop_eq_getElem_cons hi2]
    refine Ev.step (fun k => rfl) (Ev.yes (by omega) (Ev.yes (by omega) (Ev.yes (by omega) (Ev.yes (by omega) ?_))))
    rw [rd_nat a i hi, rd_nat b i hi2]
    by_cases he : a[i] = b[i]
    · have e : wrap64 ((i : Int) + 1) = ((i + 1 : Nat) : Int) := by rw [w64 (by omega) (by omega)]; omega
      refine Ev.yes he ?_
      rw [e]
      exact Ev.ok (equal_l0 a b hab hl d (i + 1) (by omega)) qqG
    · exact Ev.no he (Ev.ok (Ev.now _) (decide_eq_false (fun h => he (List.cons.inj h).1)).symm)
theorem equal_ev (a b : List Int) (hl : a.length ≤ 9223372036854775807) : Ev (fun k => slices_Equal_int_int.f k a b) (decide (a = b)) := by
  unfold slices_Equal_int_int.f
  by_cases h : (a.length : Int) = (b.length : Int)
  · exact Ev.yes h (Ev.ok (equal_l0 a b (by omega) hl a.length 0 (by omega)) (by simp))
  · exact Ev.no h (Ev.ok (Ev.now _) qqY)
def stB (l : List S38) (bar : Nat) (pass jump : Int) (x : S38) : Bool :=
  if x.f2.length = 0 then true else if jump = 0 then decide (pass ∈ x.f2) else decide (x.f2 = (rd_T38 l (lastOf l bar : Int)).f2)
theorem stO_ev (l : List S38) (bar : Nat) (pass jump : Int) (x : S38) (h : x.f2.length ≤ 9223372036854775807) : Ev (fun k => stO k l bar pass jump x) (stB l bar pass jump x) := by
  unfold stO stB
  by_cases h1 : x.f2.length = 0
  · rw [if_pos h1]; exact Ev.yes h1 (Ev.now _)
  · rw [if_neg h1]
    refine Ev.no h1 ?_
    by_cases h2 : jump = 0
    · rw [if_pos h2]; exact Ev.yes h2 (contains_ev _ h _)
    · rw [if_neg h2]; exact Ev.no h2 (equal_ev _ _ h)
theorem rd_short {l : List S38} (h : Short l) (i : Int) : (rd_T38 l i).f2.length ≤ 9223372036854775807 := by
  unfold rd_T38
  rw [List.getD_eq_getElem?_getD]
  cases hi : l[i.toNat]? with
  | none => simp [z38]
  | some x => exact h x (List.mem_of_getElem? hi)
theorem unfold_ev {l : List S38} {r : List Int × List Int × Int} (h : Ev (fun k => turns_walk.f k l) r) : Ev (fun k => turns_Unfold.f k l) (r.1, r.2.2) := by
  unfold turns_Unfold.f
  exact Ev.bind h (Ev.now _)
theorem passes_ev {l : List S38} {r : List Int × List Int × Int} (h : Ev (fun k => turns_walk.f k l) r) : Ev (fun k => turns_Passes.f k l) (r.2.1, r.2.2) := by
  unfold turns_Passes.f
  exact Ev.bind h (Ev.now _)
theorem ints_l0 (a b : List Int) (hab : a.length = b.length) (hl : a.length ≤ 9223372036854775807) : ∀ (d i : Nat), d + i = a.length → Ev (fun k => partitalaw10_ints.l0 k a b (i : Int)) (decide (a.drop i = b.drop i))
  | 0, i, h => Ev.ok (Ev.step (fun k => rfl) (Ev.no (by omega) (Ev.now _))) qqK
  | d + 1, i, h => by
    have hi : i < a.length := by omega
    have hi2 : i < b.length := by omega
    rw [List.drop_eq_getElem_cons hi, List.drop_eq_getElem_cons hi2]
    refine Ev.step (fun k => rfl) (Ev.yes (by omega) (Ev.yes (by omega) (Ev.yes (by omega) ?_)))
    rw [rd_nat a i hi, rd_nat b i hi2]
    by_cases he : a[i] = b[i]
    · have e : wrap64 ((i : Int) + 1) = ((i + 1 : Nat) : Int) := by rw [w64 (by omega) (by omega)]; omega
      refine Ev.yes he ?_
      rw [e]
      exact Ev.ok (ints_l0 a b hab hl d (i + 1) (by omega)) qqG
    · exact Ev.no he (Ev.ok (Ev.now _) (decide_eq_false (fun h => he (List.cons.inj h).1)).symm)
theorem ints_ev (a b : List Int) (hl : a.length ≤ 9223372036854775807) : Ev (fun k => partitalaw10_ints.f k a b) (decide (a = b)) := by
  unfold partitalaw10_ints.f
  by_cases h : (a.length : Int) = (b.length : Int)
  · exact Ev.yes h (Ev.ok (ints_l0 a b (by omega) hl a.length 0 (by omega)) (by simp))
  · exact Ev.no h (Ev.ok (Ev.now _) qqY)
theorem ints_same {a b : List Int} (h : a = b) (hl : a.length ≤ 9223372036854775807) : Ev (fun k => partitalaw10_ints.f k a b) true := Ev.ok (ints_ev a b hl) (decide_eq_true h)
end Go.Proofs.Ytendmmagjjhfnaa.Z
namespace Go.Proofs.Ytendmmagjjhfnaa.Z
open Go.RowKit Go.Proofs.YtendmmagjjhfnaaW.PrintWords Go.Proofs.YtendmmagjjhfnaaW.PrintLast Go.Proofs.Ytendmmagjjhfnaa.M
set_option linter.unusedVariables false
set_option linter.unusedSimpArgs false
theorem right_l0 (x : S38) (hl : x.f2.length ≤ 9223372036854775807) : ∀ (d i : Nat) (last : Int), d + i = x.f2.length → (i = 0 ∧ last = 0 ∨ 0 < i ∧ 1 ≤ last ∧ rd x.f2 ((i : Int) - 1) = last) →
    Ev (fun k => partitaref10_right.l0 k (i : Int) x.f0 x.f1 x.f2 x.f3 x.f4 x.f5 x.f6 x.f7) (endsB last (x.f2.drop i))
  | 0, i, last, h, _ => by
    rw [List.drop_of_length_le (by omega)]
    exact Ev.step (fun k => rfl) (Ev.no (by omega) (Ev.now _))
  | d + 1, i, last, h, hlast => by
    have hi : i < x.f2.length := by omega
    have e : wrap64 ((i : Int) + 1) = ((i + 1 : Nat) : Int) := by rw [w64 (by omega) (by omega)]; omega
    have again : 1 ≤ x.f2[i] → Ev (fun k => partitaref10_right.l0 k (wrap64 ((i : Int) + 1)) x.f0 x.f1 x.f2 x.f3 x.f4 x.f5 x.f6 x.f7) (endsB x.f2[i] (x.f2.drop (i + 1))) := fun h1 => by
      rw [e]
      exact right_l0 x hl d (i + 1) x.f2[i] (by omega) (.inr ⟨by omega, h1, by rw [show ((i + 1 : Nat) : Int) - 1 = (i : Int) by omega, rd_nat _ i hi]⟩)
    rw [List.drop_eq_getElem_cons hi, endsB]
    refine Ev.step (fun k => rfl) (Ev.yes (by omega) (Ev.yes (by omega) ?_))
    rw [rd_nat x.f2 i hi]
    by_cases h1 : x.f2[i] < 1
    · refine Ev.yes h1 (Ev.ok (Ev.now _) ?_)
      rw [if_pos (by rcases hlast with ⟨_, e⟩ | ⟨_, e, _⟩ <;> omega)]
    · refine Ev.no h1 ?_
      by_cases h2 : x.f2[i] > 9
      · refine Ev.yes h2 (Ev.ok (Ev.now _) ?_)
        by_cases h3 : x.f2[i] ≤ last
        · rw [if_pos h3]
        · rw [if_neg h3, if_pos h2]
      · refine Ev.no h2 ?_
        rcases hlast with ⟨h0, hl0⟩ | ⟨h0, hl1, hl2⟩
        · refine Ev.no (by omega) (Ev.ok (again (by omega)) ?_)
          rw [if_neg (by omega), if_neg h2]
        · have ew : wrap64 ((i : Int) - 1) = (i : Int) - 1 := w64 (by omega) (by omega)
          rw [ew]
          refine Ev.yes (by omega) (Ev.yes (by omega) (Ev.yes (by omega) ?_))
          rw [hl2]
          by_cases h3 : x.f2[i] ≤ last
          · rw [if_pos h3]
            exact Ev.yes h3 (Ev.now _)
          · rw [if_neg h3, if_neg h2]
            exact Ev.no h3 (again (by omega))
theorem right_ev (x : S38) (h : x.f2.length ≤ 9223372036854775807) : Ev (fun k => partitaref10_right.f k x.f0 x.f1 x.f2 x.f3 x.f4 x.f5 x.f6 x.f7) (loneB x) := by
  have kT : Ev (fun k => partitaref10_right.j0 k true x.f0 x.f1 x.f2 x.f3 x.f4 x.f5 x.f6 x.f7) false := Ev.step (fun k => rfl) (Ev.now _)
  have kF : Ev (fun k => partitaref10_right.j0 k false x.f0 x.f1 x.f2 x.f3 x.f4 x.f5 x.f6 x.f7) (endsB 0 x.f2) := Ev.step (fun k => rfl) (right_l0 x h x.f2.length 0 0 (by omega) (.inl ⟨rfl, rfl⟩))
  unfold partitaref10_right.f loneB
  by_cases h1 : x.f1 < 0
  · exact Ev.yes h1 (Ev.ok kT qqL)
  refine Ev.no h1 ?_
  by_cases h2 : x.f1 = 1
  · exact Ev.yes h2 (Ev.ok kT qqL)
  refine Ev.no h2 ?_
  by_cases h3 : x.f1 > 9
  · exact Ev.yes h3 (Ev.ok kT qqL)
  refine Ev.no h3 ?_
  rw [decide_eq_true (show x.f1 = 0 ∨ 2 ≤ x.f1 ∧ x.f1 ≤ 9 by omega)]
  by_cases h4 : x.f7 < 0
  · exact Ev.yes h4 (Ev.ok kT (by rw [decide_eq_false (show ¬ (0 ≤ x.f7 ∧ x.f7 ≤ 6) by omega)]; rfl))
  refine Ev.no h4 ?_
  by_cases h5 : x.f7 > 6
  · rw [decide_eq_true h5]
    exact Ev.ok kT (by rw [decide_eq_false (show ¬ (0 ≤ x.f7 ∧ x.f7 ≤ 6) by omega)]; rfl)
  · rw [decide_eq_false h5]
    exact Ev.ok kF (by rw [decide_eq_true (show 0 ≤ x.f7 ∧ x.f7 ≤ 6 by omega)]; rfl)
def la (p : S38 → Bool) : Int → Int → List S38 → Int
  | a, _, [] => a
  | a, i, x :: xs => la p (if p x = true then i else a) (i + 1) xs
theorem la_none (p : S38 → Bool) (l : List S38) (a : Int) : ∀ (d k : Nat), d + k = l.length → (∀ i : Nat, k ≤ i → i < l.length → p (rd_T38 l (i : Int)) = false) → la p a k (l.drop k) = a
  | 0, k, h, _ => by rw [List.drop_of_length_le (by omega)]; rfl
  | d + 1, k, h, hp => by
    have hk : k < l.length := by omega
    rw [List.drop_eq_getElem_cons hk, la, ← rd_T38_nat l k hk, hp k (Nat.le_refl _) hk, if_neg (by decide)]
    exact la_none p l a d (k + 1) (by omega) (fun i h1 h2 => hp i (by omega) h2)
theorem la_once {p : S38 → Bool} {l : List S38} (ho : Once p l) : ∀ (d k : Nat), d + k = l.length → la p (-1) k (l.drop k) = fi p k (l.drop k)
  | 0, k, h => by rw [List.drop_of_length_le (by omega)]; rfl
  | d + 1, k, h => by
    have hk : k < l.length := by omega
    cases hp : p (rd_T38 l (k : Int)) with
    | true =>
      rw [fi_yes p l k hk hp, List.drop_eq_getElem_cons hk, la, ← rd_T38_nat l k hk, hp, if_pos rfl]
      refine la_none p l k d (k + 1) (by omega) (fun i h1 h2 => ?_)
      cases hq : p (rd_T38 l (i : Int)) with
      | false => rfl
      | true => have := ho k i hk h2 hp hq; omega
    | false =>
      rw [fi_no p l k hk hp, List.drop_eq_getElem_cons hk, la, ← rd_T38_nat l k hk, hp, if_neg (by decide)]
      exact la_once ho d (k + 1) (by omega)
theorem seen_j3 (l : List S38) (i : Nat) (hi : i < l.length) (a b c : Int) (e f : Bool) {r : Int × Int × Int × Bool × Bool}
    (h : Ev (fun k => partitaref10_seen.l0 k l (wrap64 ((i : Int) + 1)) a b c (e || (rd_T38 l (i : Int)).f6) (f || (rd_T38 l (i : Int)).f5)) r) :
    Ev (fun k => partitaref10_seen.j3 k l (i : Int) a b c e f) r := by
  have h' : Ev (fun k => partitaref10_seen.j4 k l (i : Int) a b c (e || (rd_T38 l (i : Int)).f6) (f || (rd_T38 l (i : Int)).f5)) r := Ev.step (fun k => rfl) h
  refine Ev.step (fun k => rfl) (h'.congr fun n => ?_)
  have h1 : (i : Int) < (l.length : Int) := by omega
  cases e <;> cases f <;> simp [partitaref10_seen.j3, h1]
theorem seen_j2 (l : List S38) (i : Nat) (hi : i < l.length) (a b c : Int) (e f : Bool) {r : Int × Int × Int × Bool × Bool}
    (h : Ev (fun k => partitaref10_seen.l0 k l (wrap64 ((i : Int) + 1)) a b (if isJump (rd_T38 l (i : Int)) = true then (i : Int) else c) (e || (rd_T38 l (i : Int)).f6) (f || (rd_T38 l (i : Int)).f5)) r) :
    Ev (fun k => partitaref10_seen.j2 k l (i : Int) a b c e f) r := by
  refine Ev.step (fun k => rfl) (Ev.yes (by omega) ((seen_j3 l i hi a b (if isJump (rd_T38 l (i : Int)) = true then (i : Int) else c) e f h).congr fun n => ?_))
  by_cases h7 : (rd_T38 l (i : Int)).f7 = 0 <;> simp [isJump, h7]
theorem seen_j1 (l : List S38) (i : Nat) (hi : i < l.length) (a b c : Int) (e f : Bool) {r : Int × Int × Int × Bool × Bool}
    (h : Ev (fun k => partitaref10_seen.l0 k l (wrap64 ((i : Int) + 1)) a (if (rd_T38 l (i : Int)).f4 = true then (i : Int) else b) (if isJump (rd_T38 l (i : Int)) = true then (i : Int) else c) (e || (rd_T38 l (i : Int)).f6) (f || (rd_T38 l (i : Int)).f5)) r) :
    Ev (fun k => partitaref10_seen.j1 k l (i : Int) a b c e f) r := by
  refine Ev.step (fun k => rfl) (Ev.yes (by omega) ((seen_j2 l i hi a (if (rd_T38 l (i : Int)).f4 = true then (i : Int) else b) c e f h).congr fun n => ?_))
  cases h4 : (rd_T38 l (i : Int)).f4 <;> simp
theorem seen_l0 (l : List S38) (hl : l.length ≤ 140737488351232) : ∀ (d i : Nat) (a b c : Int) (e f : Bool), d + i = l.length →
    Ev (fun k => partitaref10_seen.l0 k l (i : Int) a b c e f) (la (fun x => x.f3) a i (l.drop i), la (fun x => x.f4) b i (l.drop i), la isJump c i (l.drop i), e || (l.drop i).any (fun x => x.f6), f || (l.drop i).any (fun x => x.f5))
  | 0, i, a, b, c, e, f, h => by
    rw [List.drop_of_length_le (by omega)]
    exact Ev.ok (Ev.step (fun k => rfl) (Ev.no (by omega) (Ev.now _))) (by simp [la])
  | d + 1, i, a, b, c, e, f, h => by
    have hi : i < l.length := by omega
    have ew : wrap64 ((i : Int) + 1) = ((i + 1 : Nat) : Int) := by rw [w64 (by omega) (by omega)]; omega
    have key : ∀ a', Ev (fun k => partitaref10_seen.j1 k l (i : Int) a' b c e f) (la (fun x => x.f3) a' ((i : Int) + 1) (l.drop (i + 1)), la (fun x => x.f4) b i (l.drop i), la isJump c i (l.drop i), e || (l.drop i).any (fun x => x.f6), f || (l.drop i).any (fun x => x.f5)) := fun a' => by
      refine seen_j1 l i hi a' b c e f ?_
      rw [ew]
      refine Ev.ok (seen_l0 l hl d (i + 1) _ _ _ _ _ (by omega)) ?_
      rw [List.drop_eq_getElem_cons hi, la, la, List.any_cons, List.any_cons, ← rd_T38_nat l i hi, Bool.or_assoc, Bool.or_assoc]
      rfl
    refine Ev.step (fun k => rfl) (Ev.yes (by omega) (Ev.yes (by omega) ?_))
    have e3 : la (fun x => x.f3) a i (l.drop i) = la (fun x => x.f3) (if (rd_T38 l (i : Int)).f3 = true then (i : Int) else a) ((i : Int) + 1) (l.drop (i + 1)) := by rw [List.drop_eq_getElem_cons hi, la, ← rd_T38_nat l i hi]
    rw [e3]
    by_cases h3 : (rd_T38 l (i : Int)).f3 = true
    · rw [if_pos h3]
      exact Ev.yes h3 (key _)
    · rw [if_neg h3]
      exact Ev.no h3 (key _)
theorem fi_any (p : S38 → Bool) (l : List S38) : l.any p = decide (¬ fi p 0 l < 0) := by
  rcases fi_spec p l with ⟨h1, h2⟩ | ⟨i, h1, h2, h3, _⟩
  · rw [h1, decide_eq_false (by decide), Bool.eq_false_iff]
    intro h
    obtain ⟨x, hx, hp⟩ := List.any_eq_true.1 h
    obtain ⟨i, hi, rfl⟩ := List.getElem_of_mem hx
    have := h2 i hi
    rw [rd_T38_nat l i hi, hp] at this
    cases this
  · rw [h2, decide_eq_true (by omega)]
    exact List.any_eq_true.2 ⟨_, List.getElem_mem h1, by rw [← rd_T38_nat l i h1]; exact h3⟩
theorem seen_ev {l : List S38} (hl : l.length ≤ 140737488351232) (h3 : Once (fun x => x.f3) l) (h4 : Once (fun x => x.f4) l) (h7 : Once isJump l) :
    Ev (fun k => partitaref10_seen.f k l) (fi (fun x => x.f3) 0 l, fi (fun x => x.f4) 0 l, fi isJump 0 l, decide (¬ fi (fun x => x.f6) 0 l < 0), decide (¬ fi (fun x => x.f5) 0 l < 0)) := by
  unfold partitaref10_seen.f
  refine Ev.ok (seen_l0 l hl l.length 0 (-1) (-1) (-1) false false (by omega)) ?_
  rw [← fi_any, ← fi_any]
  have e3 := la_once h3 l.length 0 (by omega)
  have e4 := la_once h4 l.length 0 (by omega)
  have e7 := la_once h7 l.length 0 (by omega)
  rw [List.drop_zero] at e3 e4 e7
  rw [List.drop_zero]
  exact Prod.ext e3 (Prod.ext e4 (Prod.ext e7 (by simp)))
def bef (p : S38 → Bool) (l : List S38) (i : Int) : Bool := decide (0 ≤ fi p 0 l ∧ fi p 0 l < i)
theorem bef_zero (p : S38 → Bool) (l : List S38) : bef p l 0 = false := decide_eq_false (by omega)
theorem bef_step (p : S38 → Bool) (l : List S38) (i : Nat) (hi : i < l.length) : bef p l ((i + 1 : Nat) : Int) = (bef p l i || p (rd_T38 l (i : Int))) := by
  unfold bef
  rw [Bool.eq_iff_iff, Bool.or_eq_true, decide_eq_true_eq, decide_eq_true_eq]
  rcases fi_spec p l with ⟨h1, h2⟩ | ⟨j, h1, h2, h3, h4⟩
  · rw [h1, h2 i hi]
    constructor
    · intro h; omega
    · rintro (h | h)
      · omega
      · cases h
  · rw [h2]
    constructor
    · rintro ⟨_, h⟩
      rcases Nat.lt_or_ge j i with hlt | hge
      · exact .inl (by omega)
      · have : j = i := by omega
        exact .inr (by rw [← this]; exact h3)
    · rintro (h | h)
      · omega
      · refine ⟨by omega, ?_⟩
        rcases Nat.lt_or_ge i j with hlt | hge
        · rw [h4 i hlt] at h; cases h
        · omega
theorem bef_again (p : S38 → Bool) (l : List S38) (i : Nat) (hi : i < l.length) : (p (rd_T38 l (i : Int)) && decide ((i : Int) > fi p 0 l)) = (p (rd_T38 l (i : Int)) && bef p l i) := by
  cases hp : p (rd_T38 l (i : Int)) with
  | false => rfl
  | true =>
    rw [Bool.true_and, Bool.true_and]
    unfold bef
    rcases fi_spec p l with ⟨h1, h2⟩ | ⟨j, h1, h2, h3, h4⟩
    · rw [h2 i hi] at hp; cases hp
    · rw [h2, Bool.eq_iff_iff, decide_eq_true_eq, decide_eq_true_eq]; omega
theorem again_bef (l : List S38) (i : Nat) (hi : i < l.length) : againB (fi (fun x => x.f3) 0 l) (fi (fun x => x.f4) 0 l) (fi isJump 0 l) i (rd_T38 l (i : Int)) =
    (((rd_T38 l (i : Int)).f3 && bef (fun x => x.f3) l i) || ((rd_T38 l (i : Int)).f4 && bef (fun x => x.f4) l i) || (isJump (rd_T38 l (i : Int)) && bef isJump l i)) := by
  unfold againB
  rw [bef_again (fun x => x.f3) l i hi, bef_again (fun x => x.f4) l i hi]
  exact congrArg (_ || ·) (bef_again isJump l i hi)
theorem chkB_all {s c j : Int} (l : List S38) : ∀ (d k : Nat), d + k = l.length → chkB s c j k (l.drop k) = none → ∀ i : Nat, k ≤ i → i < l.length → loneB (rd_T38 l (i : Int)) = true ∧ againB s c j i (rd_T38 l (i : Int)) = false
  | 0, k, h, _, i, h1, h2 => by omega
  | d + 1, k, h, hc, i, h1, h2 => by
    have hk : k < l.length := by omega
    rw [List.drop_eq_getElem_cons hk, chkB, ← rd_T38_nat l k hk] at hc
    by_cases a1 : loneB (rd_T38 l (k : Int)) = true
    · rw [if_pos a1] at hc
      by_cases a2 : againB s c j k (rd_T38 l (k : Int)) = true
      · rw [if_pos a2] at hc; cases hc
      · rw [if_neg a2] at hc
        rcases Nat.eq_or_lt_of_le h1 with rfl | hlt
        · exact ⟨a1, Bool.eq_false_iff.2 a2⟩
        · exact chkB_all l d (k + 1) (by omega) hc i hlt h2
    · rw [if_neg a1] at hc; cases hc
theorem once_of {p : S38 → Bool} {l : List S38} (h : ∀ i : Nat, i < l.length → (p (rd_T38 l (i : Int)) && decide ((i : Int) > fi p 0 l)) = false) : Once p l := by
  have key : ∀ i : Nat, i < l.length → p (rd_T38 l (i : Int)) = true → fi p 0 l = i := fun i hi hp => by
    have h1 := h i hi
    rw [hp, Bool.true_and, decide_eq_false_iff_not] at h1
    rcases fi_spec p l with ⟨_, h2⟩ | ⟨j, _, h2, _, h4⟩
    · rw [h2 i hi] at hp; cases hp
    · rcases Nat.lt_or_ge i j with hlt | hge
      · rw [h4 i hlt] at hp; cases hp
      · omega
  intro i i' hi hi' hp hp'
  have a := key i hi hp
  have b := key i' hi' hp'
  omega
theorem okay_of {l : List S38} (h : chkB (fi (fun x => x.f3) 0 l) (fi (fun x => x.f4) 0 l) (fi isJump 0 l) 0 l = none) : Okay l := by
  have hall := chkB_all l l.length 0 (by omega) (by rw [List.drop_zero]; exact h)
  have hag : ∀ i : Nat, i < l.length → _ := fun i hi => (hall i (Nat.zero_le _) hi).2
  unfold againB at hag
  refine ⟨fun i hi => (hall i (Nat.zero_le _) hi).1, once_of fun i hi => ?_, once_of fun i hi => ?_, once_of fun i hi => ?_⟩
  · have := hag i hi
    rw [Bool.or_eq_false_iff, Bool.or_eq_false_iff] at this
    exact this.1.1
  · have := hag i hi
    rw [Bool.or_eq_false_iff, Bool.or_eq_false_iff] at this
    exact this.1.2
  · have := hag i hi
    rw [Bool.or_eq_false_iff, Bool.or_eq_false_iff] at this
    exact this.2
theorem jump_num (x : S38) : (x.f7 != 0) = isJump x := by unfold isJump; rw [Bool.eq_iff_iff, bne_iff_ne, decide_eq_true_eq]
theorem chk_end {l : List S38} (hl : l.length ≤ 140737488351232) (ho : Okay l) (b4 b5 b6 : Bool) (hn : chkB (fi (fun x => x.f3) 0 l) (fi (fun x => x.f4) 0 l) (fi isJump 0 l) 0 l = none) :
    Ev (fun k => partitaref10_Check.l0 k l b4 b5 b6 (l.length : Int)) (chkR l) := by
  refine Ev.step (fun k => rfl) (Ev.no (by omega) (Ev.bind (seen_ev hl ho.sign ho.coda ho.jump) ?_))
  unfold chkR
  rw [hn]
  dsimp only
  generalize hJ : fi isJump 0 l = J
  by_cases h1 : J < 0
  · rw [if_pos h1]
    exact Ev.yes h1 (Ev.now _)
  · rw [if_neg h1]
    have hJl : J < (l.length : Int) := by
      rcases fi_spec isJump l with ⟨e, _⟩ | ⟨j, a, e, _⟩
      · omega
      · omega
    refine Ev.no h1 (Ev.yes (by omega) (Ev.yes hJl ?_))
    generalize (rd_T38 l J).f7 = g
    have key : ∀ b : Bool, Ev (fun k => partitaref10_Check.j2 k b (fi (fun x => x.f3) 0 l) (fi (fun x => x.f4) 0 l) J (decide (¬ fi (fun x => x.f6) 0 l < 0)) (decide (¬ fi (fun x => x.f5) 0 l < 0))) (if b = true then (J, 100) else (0, 0)) := fun b => by
      refine Ev.step (fun k => rfl) ?_
      cases b
      · exact Ev.now _
      · exact Ev.now _
    refine (key (lacksB l (fi (fun x => x.f3) 0 l) (fi (fun x => x.f4) 0 l) g)).congr fun n => ?_
    unfold lacksB partitaref10_toSign.f partitaref10_forFine.f partitaref10_forCoda.f
    generalize fi (fun x => x.f3) 0 l = S
    generalize fi (fun x => x.f4) 0 l = C
    generalize fi (fun x => x.f6) 0 l = F
    generalize fi (fun x => x.f5) 0 l = T
    by_cases a1 : g ≥ 4 <;> by_cases a2 : S < 0 <;> by_cases a3 : g = 2 <;> by_cases a4 : g = 5 <;> by_cases a5 : F < 0 <;> by_cases a6 : g = 3 <;> by_cases a7 : g = 6 <;> by_cases a8 : C < 0 <;> by_cases a9 : T < 0 <;> first | (exfalso; omega) | simp [a1, a2, a3, a4, a5, a6, a7, a8, a9]
theorem chk_l0 {l : List S38} (hl : l.length ≤ 140737488351232) (hs : Short l) : ∀ (d i : Nat), d + i = l.length →
    chkB (fi (fun x => x.f3) 0 l) (fi (fun x => x.f4) 0 l) (fi isJump 0 l) 0 l = chkB (fi (fun x => x.f3) 0 l) (fi (fun x => x.f4) 0 l) (fi isJump 0 l) i (l.drop i) →
    Ev (fun k => partitaref10_Check.l0 k l (bef (fun x => x.f3) l i) (bef (fun x => x.f4) l i) (bef isJump l i) (i : Int)) (chkR l)
  | 0, i, h, hc => by
    rw [List.drop_of_length_le (by omega)] at hc
    obtain rfl : i = l.length := by omega
    exact chk_end hl (okay_of hc) _ _ _ hc
  | d + 1, i, h, hc => by
    have hi : i < l.length := by omega
    have ew : wrap64 ((i : Int) + 1) = ((i + 1 : Nat) : Int) := by rw [w64 (by omega) (by omega)]; omega
    have hx : (rd_T38 l (i : Int)).f2.length ≤ 9223372036854775807 := rd_short hs _
    rw [List.drop_eq_getElem_cons hi, chkB, ← rd_T38_nat l i hi] at hc
    refine Ev.step (fun k => rfl) (Ev.yes (by omega) (Ev.yes (by omega) (Ev.bind (right_ev _ hx) ?_)))
    have err : chkB (fi (fun x => x.f3) 0 l) (fi (fun x => x.f4) 0 l) (fi isJump 0 l) 0 l = some (i : Int) → chkR l = ((i : Int), 100) := fun e => by unfold chkR; rw [e]
    have kT : chkR l = ((i : Int), 100) → Ev (fun k => partitaref10_Check.j1 k l (bef (fun x => x.f3) l i) (bef (fun x => x.f4) l i) (bef isJump l i) (i : Int) true (rd_T38 l (i : Int)).f0 (rd_T38 l (i : Int)).f1 (rd_T38 l (i : Int)).f2 (rd_T38 l (i : Int)).f3 (rd_T38 l (i : Int)).f4 (rd_T38 l (i : Int)).f5 (rd_T38 l (i : Int)).f6 (rd_T38 l (i : Int)).f7) (chkR l) := fun e => by
      rw [e]
      exact Ev.step (fun k => rfl) (Ev.now _)
    by_cases h1 : loneB (rd_T38 l (i : Int)) = true
    · rw [if_pos h1] at hc
      refine Ev.yes h1 ?_
      have kk : Ev (fun k => partitaref10_Check.j1 k l (bef (fun x => x.f3) l i) (bef (fun x => x.f4) l i) (bef isJump l i) (i : Int) (againB (fi (fun x => x.f3) 0 l) (fi (fun x => x.f4) 0 l) (fi isJump 0 l) i (rd_T38 l (i : Int))) (rd_T38 l (i : Int)).f0 (rd_T38 l (i : Int)).f1 (rd_T38 l (i : Int)).f2 (rd_T38 l (i : Int)).f3 (rd_T38 l (i : Int)).f4 (rd_T38 l (i : Int)).f5 (rd_T38 l (i : Int)).f6 (rd_T38 l (i : Int)).f7) (chkR l) := by
        by_cases h2 : againB (fi (fun x => x.f3) 0 l) (fi (fun x => x.f4) 0 l) (fi isJump 0 l) i (rd_T38 l (i : Int)) = true
        · rw [if_pos h2] at hc
          rw [err hc]
          exact Ev.step (fun k => rfl) (Ev.yes h2 (Ev.now _))
        · rw [if_neg h2] at hc
          refine Ev.step (fun k => rfl) (Ev.no h2 ?_)
          have hr := chk_l0 hl hs d (i + 1) (by omega) hc
          rw [bef_step _ l i hi, bef_step _ l i hi, bef_step _ l i hi] at hr
          rw [ew]
          refine hr.congr fun n => ?_
          rw [jump_num]
          cases bef (fun x => x.f3) l i <;> cases bef (fun x => x.f4) l i <;> cases bef isJump l i <;> rfl
      refine kk.congr fun n => ?_
      rw [again_bef l i hi]
      have hj : isJump (rd_T38 l (i : Int)) = decide ((rd_T38 l (i : Int)).f7 ≠ 0) := rfl
      rw [hj]
      cases h3 : (rd_T38 l (i : Int)).f3 <;> cases h4 : (rd_T38 l (i : Int)).f4 <;> by_cases h7 : (rd_T38 l (i : Int)).f7 = 0 <;> cases bef (fun x => x.f3) l i <;> cases bef (fun x => x.f4) l i <;> simp [h7]
    · rw [if_neg h1] at hc
      exact Ev.no h1 (kT (err hc))
theorem refCheck_ev {l : List S38} (hl : l.length ≤ 140737488351232) (hs : Short l) : Ev (fun k => partitaref10_Check.f k l) (chkR l) := by
  unfold partitaref10_Check.f
  have h := chk_l0 hl hs l.length 0 (by omega) qqX
  rw [show ((0 : Nat) : Int) = 0 from rfl, bef_zero, bef_zero, bef_zero] at h
  exact h
end Go.Proofs.Ytendmmagjjhfnaa.Z
namespace Go.Proofs.Ytendmmagjjhfnaa.Z
open Go.RowKit Go.Proofs.YtendmmagjjhfnaaW.PrintWords Go.Proofs.YtendmmagjjhfnaaW.PrintLast Go.Proofs.Ytendmmagjjhfnaa.M
set_option linter.unusedVariables false
set_option linter.unusedSimpArgs false
theorem has_l0 (l : List Int) (hl : l.length ≤ 9223372036854775807) (a : Int) : ∀ (d i : Nat), d + i = l.length → Ev (fun k => partitaref10_has.l0 k l a (i : Int)) (decide (a ∈ l.drop i))
  | 0, i, h => Ev.ok (Ev.step (fun k => rfl) (Ev.no (by omega) (Ev.now _))) (by rw [List.drop_of_length_le (by omega)]; simp)
  | d + 1, i, h => by
    have hi : i < l.length := by omega
    have e : wrap64 ((i : Int) + 1) = ((i + 1 : Nat) : Int) := by rw [w64 (by omega) (by omega)]; omega
    rw [List.drop_eq_getElem_cons hi]
    refine Ev.step (fun k => rfl) (Ev.yes (by omega) (Ev.yes (by omega) ?_))
    rw [rd_nat l i hi]
    by_cases ha : l[i] = a
    · exact Ev.yes ha (Ev.ok (Ev.now _) (decide_eq_true (by rw [ha]; exact List.mem_cons_self)).symm)
    · refine Ev.no ha ?_
      rw [e]
      refine Ev.ok (has_l0 l hl a d (i + 1) (by omega)) ?_
      rw [Bool.eq_iff_iff, decide_eq_true_eq, decide_eq_true_eq, List.mem_cons]
      exact ⟨fun h => .inr h, fun h => h.resolve_left (fun e => ha e.symm)⟩
theorem has_ev (l : List Int) (hl : l.length ≤ 9223372036854775807) (a : Int) : Ev (fun k => partitaref10_has.f k l a) (decide (a ∈ l)) := by
  unfold partitaref10_has.f
  exact has_l0 l hl a l.length 0 (by omega)
theorem same_l0 (a b : List Int) (hab : a.length = b.length) (hl : a.length ≤ 9223372036854775807) : ∀ (d i : Nat), d + i = a.length → Ev (fun k => partitaref10_same.l0 k a b (i : Int)) (decide (a.drop i = b.drop i))
  | 0, i, h => Ev.ok (Ev.step (fun k => rfl) (Ev.no (by omega) (Ev.now _))) qqK
  | d + 1, i, h => by
    have hi : i < a.length := by omega
    have hi2 : i < b.length := by omega
    rw [List.drop_eq_getElem_cons hi, List.drop_eq_getElem_cons hi2]
    refine Ev.step (fun k => rfl) (Ev.yes (by omega) (Ev.yes (by omega) (Ev.yes (by omega) ?_)))
    rw [rd_nat a i hi, rd_nat b i hi2]
    by_cases he : a[i] = b[i]
    · have e : wrap64 ((i : Int) + 1) = ((i + 1 : Nat) : Int) := by rw [w64 (by omega) (by omega)]; omega
      refine Ev.yes he ?_
      rw [e]
      exact Ev.ok (same_l0 a b hab hl d (i + 1) (by omega)) qqG
    · exact Ev.no he (Ev.ok (Ev.now _) (decide_eq_false (fun h => he (List.cons.inj h).1)).symm)
theorem same_ev (a b : List Int) (hl : a.length ≤ 9223372036854775807) : Ev (fun k => partitaref10_same.f k a b) (decide (a = b)) := by
  unfold partitaref10_same.f
  by_cases h : (a.length : Int) = (b.length : Int)
  · exact Ev.yes h (Ev.ok (same_l0 a b (by omega) hl a.length 0 (by omega)) (by simp))
  · exact Ev.no h (Ev.ok (Ev.now _) qqY)
theorem stands_l0 (l : List S38) (hl : l.length ≤ 140737488351232) (e : List Int) (he : e.length ≤ 9223372036854775807) (bar pass mark : Int) (b4 b5 b6 b7 b8 : Bool) : ∀ (d i : Nat), d + (i + 1) = l.length →
    Ev (fun k => partitaref10_Walk_stands.l0 k l e (i : Int) bar pass mark b4 b5 b6 b7 b8) (decide (e = (rd_T38 l (lastOf l i : Int)).f2), bar, pass, mark, b4, b5, b6, b7, b8)
  | 0, i, h => by
    have ew : wrap64 ((i : Int) + 1) = ((i + 1 : Nat) : Int) := by rw [w64 (by omega) (by omega)]; omega
    rw [lastOf_stop (by omega) (by omega)]
    exact Ev.step (fun k => rfl) (Ev.no (by rw [ew]; omega) (Ev.yes (by omega) (Ev.yes (by omega) (Ev.bind (same_ev e _ he) (Ev.now _)))))
  | d + 1, i, h => by
    have ew : wrap64 ((i : Int) + 1) = ((i + 1 : Nat) : Int) := by rw [w64 (by omega) (by omega)]; omega
    refine Ev.step (fun k => rfl) (Ev.yes (by rw [ew]; omega) (Ev.yes (by rw [ew]; omega) ?_))
    rw [ew]
    by_cases hp : 0 < (rd_T38 l ((i + 1 : Nat) : Int)).f2.length
    · rw [lastOf_step (by omega) hp]
      exact Ev.yes (by omega) (stands_l0 l hl e he bar pass mark b4 b5 b6 b7 b8 d (i + 1) (by omega))
    · rw [lastOf_stop (by omega) (fun h => hp h.2)]
      exact Ev.no (by omega) (Ev.yes (by omega) (Ev.yes (by omega) (Ev.bind (same_ev e _ he) (Ev.now _))))
theorem stands_ev {l : List S38} (hl : l.length ≤ 140737488351232) (hs : Short l) (bar : Nat) (hb : bar < l.length) (pass mark jump : Int) (b4 b6 b7 b8 : Bool) :
    Ev (fun k => partitaref10_Walk_stands.f k (bar : Int) pass mark b4 (decide (jump ≠ 0)) b6 b7 b8 l) (stB l bar pass jump (rd_T38 l (bar : Int)), (bar : Int), pass, mark, b4, decide (jump ≠ 0), b6, b7, b8) := by
  unfold partitaref10_Walk_stands.f stB
  refine Ev.yes (by omega) (Ev.yes (by omega) ?_)
  by_cases h1 : (rd_T38 l (bar : Int)).f2.length = 0
  · rw [if_pos h1]
    exact Ev.yes (by omega) (Ev.now _)
  · rw [if_neg h1]
    refine Ev.no (by omega) ?_
    by_cases h2 : jump = 0
    · rw [if_pos h2]
      exact Ev.no (by simp [h2]) (Ev.bind (has_ev _ (rd_short hs _) pass) (Ev.now _))
    · rw [if_neg h2]
      exact Ev.yes (by simp [h2]) (stands_l0 l hl _ (rd_short hs _) _ _ _ _ _ _ _ _ (l.length - (bar + 1)) bar (by omega))
def stOf (q : Wk) (e : Bool) : Int × Int × Int × Bool × Bool × Bool × Bool × Bool := (q.bar, q.pass, q.mark, q.closed, decide (q.jump ≠ 0), q.fn, q.cd, e)
theorem fine_f (g : Int) : partitaref10_forFine.f g = some (isFine g) := by
  unfold partitaref10_forFine.f isFine
  by_cases h1 : g = 2
  · rw [if_pos h1, decide_eq_true h1]; rfl
  · rw [if_neg h1, decide_eq_false h1, Bool.false_or]; rfl
theorem coda_f (g : Int) : partitaref10_forCoda.f g = some (isCoda g) := by
  unfold partitaref10_forCoda.f isCoda
  by_cases h1 : g = 3
  · rw [if_pos h1, decide_eq_true h1]; rfl
  · rw [if_neg h1, decide_eq_false h1, Bool.false_or]; rfl
def onR (s c : Int) (q : Wk) (x : S38) : Int × Int × Int × Bool × Bool × Bool × Bool × Bool := match onW s c q x with
  | none => stOf q true
  | some q2 => stOf q2 false
theorem on_ev {l : List S38} (hl : l.length ≤ 140737488351232) (s c j : Int) (fi_ co : Bool) (q : Wk) (h0 : 0 ≤ q.bar) (h1 : q.bar < (l.length : Int)) (hp0 : 1 ≤ q.pass) (hp1 : q.pass ≤ 1000000) :
    Ev (fun k => partitaref10_Walk_on.f k q.bar q.pass q.mark q.closed (decide (q.jump ≠ 0)) q.fn q.cd false l s c j fi_ co) (onR s c q (rd_T38 l q.bar)) := by
  have wb : wrap64 (q.bar + 1) = q.bar + 1 := w64 (by omega) (by omega)
  have wp : wrap64 (q.pass + 1) = q.pass + 1 := w64 (by omega) (by omega)
  unfold partitaref10_Walk_on.f onR onW
  refine Ev.yes h0 (Ev.yes h1 ?_)
  generalize rd_T38 l q.bar = x
  obtain ⟨bar, pass, mark, closed, jump, fn, cd⟩ := q
  dsimp only at *
  have k0 : Ev (fun k => partitaref10_Walk_on.j0 k (fn && x.f6) bar pass mark closed (decide (jump ≠ 0)) fn cd false s c j fi_ co x.f0 x.f1 x.f3 x.f4 x.f5 x.f6 x.f7) (onR s c ⟨bar, pass, mark, closed, jump, fn, cd⟩ x) := by
    unfold onR onW
    dsimp only
    refine Ev.step (fun k => rfl) ?_
    by_cases a0 : (fn && x.f6) = true
    · rw [if_pos a0]
      exact Ev.yes a0 (Ev.now _)
    refine Ev.no a0 ?_
    rw [if_neg a0]
    have k1 : Ev (fun k => partitaref10_Walk_on.j1 k (cd && x.f5) bar pass mark closed (decide (jump ≠ 0)) fn cd false s c j fi_ co x.f0 x.f1 x.f3 x.f4 x.f5 x.f6 x.f7) (match (if (cd && x.f5) = true then some ((⟨bar, pass, mark, closed, jump, fn, false⟩ : Wk).to c) else if jump = 0 ∧ pass < x.f1 then some ⟨mark, pass + 1, mark, false, jump, fn, cd⟩ else if jump ≠ 0 ∨ x.f7 = 0 then some ⟨bar + 1, pass, mark, closed || decide (x.f1 > 0), jump, fn, cd⟩ else some ((⟨bar, pass, mark, closed, x.f7, isFine x.f7, isCoda x.f7⟩ : Wk).to (if x.f7 ≥ 4 then s else 0))) with | none => stOf ⟨bar, pass, mark, closed, jump, fn, cd⟩ true | some q2 => stOf q2 false) := by
      refine Ev.step (fun k => rfl) ?_
      by_cases a1 : (cd && x.f5) = true
      · rw [if_pos a1]
        exact Ev.yes a1 (Ev.now _)
      refine Ev.no a1 ?_
      rw [if_neg a1]
      have k2 : Ev (fun k => partitaref10_Walk_on.j2 k (decide (jump = 0 ∧ pass < x.f1)) bar pass mark closed (decide (jump ≠ 0)) fn cd false s c j fi_ co x.f0 x.f1 x.f3 x.f4 x.f5 x.f6 x.f7) (match (if jump = 0 ∧ pass < x.f1 then some ⟨mark, pass + 1, mark, false, jump, fn, cd⟩ else if jump ≠ 0 ∨ x.f7 = 0 then some ⟨bar + 1, pass, mark, closed || decide (x.f1 > 0), jump, fn, cd⟩ else some ((⟨bar, pass, mark, closed, x.f7, isFine x.f7, isCoda x.f7⟩ : Wk).to (if x.f7 ≥ 4 then s else 0))) with | none => stOf ⟨bar, pass, mark, closed, jump, fn, cd⟩ true | some q2 => stOf q2 false) := by
        refine Ev.step (fun k => rfl) ?_
        by_cases a2 : jump = 0 ∧ pass < x.f1
        · rw [if_pos a2]
          refine Ev.yes (decide_eq_true a2) ?_
          rw [wp]
          exact Ev.now _
        refine Ev.no (by rw [decide_eq_true_eq]; exact a2) ?_
        rw [if_neg a2]
        have k3 : Ev (fun k => partitaref10_Walk_on.j3 k bar pass mark (closed || decide (x.f1 > 0)) (decide (jump ≠ 0)) fn cd false s c j fi_ co x.f0 x.f1 x.f3 x.f4 x.f5 x.f6 x.f7) (match (if jump ≠ 0 ∨ x.f7 = 0 then some ⟨bar + 1, pass, mark, closed || decide (x.f1 > 0), jump, fn, cd⟩ else some ((⟨bar, pass, mark, closed, x.f7, isFine x.f7, isCoda x.f7⟩ : Wk).to (if x.f7 ≥ 4 then s else 0))) with | none => stOf ⟨bar, pass, mark, closed, jump, fn, cd⟩ true | some q2 => stOf q2 false) := by
          refine Ev.step (fun k => rfl) ?_
          have k4 : Ev (fun k => partitaref10_Walk_on.j4 k (decide (jump ≠ 0 ∨ x.f7 = 0)) bar pass mark (closed || decide (x.f1 > 0)) (decide (jump ≠ 0)) fn cd false s c j fi_ co x.f0 x.f1 x.f3 x.f4 x.f5 x.f6 x.f7) (match (if jump ≠ 0 ∨ x.f7 = 0 then some ⟨bar + 1, pass, mark, closed || decide (x.f1 > 0), jump, fn, cd⟩ else some ((⟨bar, pass, mark, closed, x.f7, isFine x.f7, isCoda x.f7⟩ : Wk).to (if x.f7 ≥ 4 then s else 0))) with | none => stOf ⟨bar, pass, mark, closed, jump, fn, cd⟩ true | some q2 => stOf q2 false) := by
            refine Ev.step (fun k => rfl) ?_
            by_cases a3 : jump ≠ 0 ∨ x.f7 = 0
            · rw [if_pos a3]
              refine Ev.yes (decide_eq_true a3) ?_
              rw [wb]
              exact Ev.now _
            refine Ev.no (by rw [decide_eq_true_eq]; exact a3) ?_
            rw [if_neg a3]
            have a5 : x.f7 ≠ 0 := fun e => a3 (.inr e)
            refine (Ev.now _).congr fun n => ?_
            rw [fine_f, coda_f]
            unfold partitaref10_toSign.f partitaref10_Walk_goTo.f stOf Wk.to
            by_cases a4 : x.f7 ≥ 4
            · simp [a4, a5]
            · simp [a4, a5]
          by_cases a3 : x.f7 = 0
          · refine Ev.yes a3 ?_
            rw [decide_eq_true (show jump ≠ 0 ∨ x.f7 = 0 from .inr a3)] at k4
            exact k4
          · refine Ev.no a3 ?_
            have : decide (jump ≠ 0 ∨ x.f7 = 0) = decide (jump ≠ 0) := by rw [Bool.eq_iff_iff, decide_eq_true_eq, decide_eq_true_eq]; exact ⟨fun h => h.resolve_right a3, fun h => .inl h⟩
            rw [this] at k4
            exact k4
        refine k3.congr fun n => ?_
        cases closed <;> rfl
      by_cases a2 : x.f1 > 0
      · refine Ev.yes a2 ?_
        by_cases a3 : jump = 0
        · refine Ev.no (by simp [a3]) ?_
          have : decide (jump = 0 ∧ pass < x.f1) = decide (pass < x.f1) := by rw [Bool.eq_iff_iff, decide_eq_true_eq, decide_eq_true_eq]; exact ⟨fun h => h.2, fun h => ⟨a3, h⟩⟩
          rw [this] at k2
          exact k2
        · refine Ev.yes (by simp [a3]) ?_
          rw [decide_eq_false (show ¬ (jump = 0 ∧ pass < x.f1) from fun h => a3 h.1)] at k2
          exact k2
      · refine Ev.no a2 ?_
        rw [decide_eq_false (show ¬ (jump = 0 ∧ pass < x.f1) by omega)] at k2
        exact k2
    refine k1.congr fun n => ?_
    cases cd <;> rfl
  unfold onR onW at k0
  refine k0.congr fun n => ?_
  cases fn <;> rfl
structure Good (l : List S38) (c : Int) (q : Wk) (n : Nat) : Prop where
  b0 : 0 ≤ q.bar
  b1 : q.bar ≤ (l.length : Int)
  m0 : 0 ≤ q.mark
  m1 : q.mark ≤ (l.length : Int)
  p0 : 1 ≤ q.pass
  p1 : q.pass ≤ (n : Int) + 1
  cd : q.cd = true → 0 ≤ c
theorem Good.enter {l : List S38} {c : Int} {q : Wk} {n : Nat} (h : Good l c q n) (x : S38) : Good l c (enterW q x) n := by
  unfold enterW
  split
  · exact ⟨h.b0, h.b1, h.b0, h.b1, Int.le_refl _, by show (1 : Int) ≤ _; omega, h.cd⟩
  · exact h
theorem Good.skip {l : List S38} {c : Int} {q : Wk} {n : Nat} (h : Good l c q n) (hb : q.bar < (l.length : Int)) (x : S38) : Good l c (skipW q x) n :=
  ⟨by show 0 ≤ q.bar + 1; have := h.b0; omega, by show q.bar + 1 ≤ _; omega, h.m0, h.m1, h.p0, h.p1, h.cd⟩
theorem Good.on {l : List S38} {s c : Int} {q q2 : Wk} {n : Nat} (h : Good l c q n) (hb : q.bar < (l.length : Int)) (x : S38) (hs1 : s ≤ (l.length : Int)) (hc1 : c ≤ (l.length : Int)) (hS : x.f7 ≥ 4 → 0 ≤ s) (hC : isCoda x.f7 = true → 0 ≤ c)
    (ho : onW s c q x = some q2) : Good l c q2 (n + 1) := by
  have hp := h.p1
  have h0 := h.b0
  unfold onW at ho
  split at ho
  · cases ho
  split at ho
  · rename_i hcd
    obtain rfl := Option.some.inj ho
    have hc := h.cd (by rw [Bool.and_eq_true] at hcd; exact hcd.1)
    exact ⟨hc, hc1, hc, hc1, Int.le_refl _, by show (1 : Int) ≤ _; omega, fun e => by cases e⟩
  split at ho
  · obtain rfl := Option.some.inj ho
    exact ⟨h.m0, h.m1, h.m0, h.m1, by show 1 ≤ q.pass + 1; have := h.p0; omega, by show q.pass + 1 ≤ _; omega, h.cd⟩
  split at ho
  · obtain rfl := Option.some.inj ho
    exact ⟨by show 0 ≤ q.bar + 1; omega, by show q.bar + 1 ≤ _; omega, h.m0, h.m1, h.p0, by show q.pass ≤ _; omega, h.cd⟩
  · obtain rfl := Option.some.inj ho
    by_cases h4 : x.f7 ≥ 4
    · rw [if_pos h4]
      exact ⟨hS h4, hs1, hS h4, hs1, Int.le_refl _, by show (1 : Int) ≤ _; omega, fun e => hC e⟩
    · rw [if_neg h4]
      exact ⟨Int.le_refl _, by show (0 : Int) ≤ _; omega, Int.le_refl _, by show (0 : Int) ≤ _; omega, Int.le_refl _, by show (1 : Int) ≤ _; omega, fun e => hC e⟩
theorem enter_ev {l : List S38} (x9 x10 : List Int) (q : Wk) (s c j : Int) (fi_ co : Bool) (h0 : 0 ≤ q.bar) (h1 : q.bar < (l.length : Int)) {t : List Int × List Int × Int × Int × Int × Int × Bool × Bool × Bool × Bool × Bool}
    (h : Ev (fun k => partitaref10_walk.j3 k l x9 x10 (enterW q (rd_T38 l q.bar)).bar (enterW q (rd_T38 l q.bar)).pass (enterW q (rd_T38 l q.bar)).mark (enterW q (rd_T38 l q.bar)).closed (decide ((enterW q (rd_T38 l q.bar)).jump ≠ 0)) (enterW q (rd_T38 l q.bar)).fn (enterW q (rd_T38 l q.bar)).cd false s c j fi_ co
      (rd_T38 l q.bar).f0 (rd_T38 l q.bar).f1 (rd_T38 l q.bar).f3 (rd_T38 l q.bar).f4 (rd_T38 l q.bar).f5 (rd_T38 l q.bar).f6 (rd_T38 l q.bar).f7) t) :
    Ev (fun k => partitaref10_walk.l0 k l x9 x10 q.bar q.pass q.mark q.closed (decide (q.jump ≠ 0)) q.fn q.cd false s c j fi_ co) t := by
  suffices H : ∀ e : Bool, e = false → Ev (fun k => partitaref10_walk.l0 k l x9 x10 q.bar q.pass q.mark q.closed (decide (q.jump ≠ 0)) q.fn q.cd e s c j fi_ co) t from H false rfl
  intro e he
  refine Ev.step (fun k => rfl) (Ev.no (by rw [he]; decide) (Ev.step (fun k => rfl) (Ev.yes (decide_eq_true h1) (Ev.yes h0 (Ev.yes h1 ?_)))))
  subst he
  generalize rd_T38 l q.bar = x at h ⊢
  have k2 : Ev (fun k => partitaref10_walk.j2 k l x9 x10 (entersB q x) q.bar q.pass q.mark q.closed (decide (q.jump ≠ 0)) q.fn q.cd false s c j fi_ co x.f0 x.f1 x.f3 x.f4 x.f5 x.f6 x.f7) t := by
    refine Ev.step (fun k => rfl) ?_
    unfold enterW at h
    by_cases he : entersB q x = true
    · rw [if_pos he] at h
      exact Ev.yes he h
    · rw [if_neg he] at h
      exact Ev.no he h
  refine k2.congr fun n => ?_
  unfold entersB
  have e : ((x.f2.length : Int) == 0) = decide (x.f2.length = 0) := by rw [Bool.eq_iff_iff, beq_iff_eq, decide_eq_true_eq]; omega
  rw [e]
  cases x.f0 <;> by_cases hm : q.bar = q.mark <;> cases q.closed <;> simp [hm]
theorem skip_ev {l : List S38} (hl : l.length ≤ 140737488351232) (hs : Short l) (x9 x10 : List Int) (q : Wk) (s c j : Int) (fi_ co : Bool) (h0 : 0 ≤ q.bar) (h1 : q.bar < (l.length : Int)) {t : List Int × List Int × Int × Int × Int × Int × Bool × Bool × Bool × Bool × Bool}
    (hb : stB l q.bar.toNat q.pass q.jump (rd_T38 l q.bar) = false)
    (h : Ev (fun k => partitaref10_walk.l0 k l x9 x10 (skipW q (rd_T38 l q.bar)).bar q.pass q.mark (skipW q (rd_T38 l q.bar)).closed (decide (q.jump ≠ 0)) q.fn q.cd false s c j fi_ co) t) :
    Ev (fun k => partitaref10_walk.j3 k l x9 x10 q.bar q.pass q.mark q.closed (decide (q.jump ≠ 0)) q.fn q.cd false s c j fi_ co (rd_T38 l q.bar).f0 (rd_T38 l q.bar).f1 (rd_T38 l q.bar).f3 (rd_T38 l q.bar).f4 (rd_T38 l q.bar).f5 (rd_T38 l q.bar).f6 (rd_T38 l q.bar).f7) t := by
  have wb : wrap64 (q.bar + 1) = q.bar + 1 := w64 (by omega) (by omega)
  have st := stands_ev hl hs q.bar.toNat (by omega) q.pass q.mark q.jump q.closed q.fn q.cd false
  rw [Int.toNat_of_nonneg h0] at st
  refine Ev.step (fun k => rfl) (Ev.bind st (Ev.no (fun h => absurd (hb.symm.trans h) (by decide)) ?_))
  refine h.congr fun n => ?_
  unfold skipW
  dsimp only
  rw [wb]
  generalize rd_T38 l q.bar = x
  cases q.closed <;> by_cases hj : q.jump = 0 <;> by_cases hx : x.f1 > 0 <;> simp [hj, hx]
theorem full_ev {l : List S38} (hl : l.length ≤ 140737488351232) (hs : Short l) (x9 x10 : List Int) (q : Wk) (s c j : Int) (fi_ co : Bool) (h0 : 0 ≤ q.bar) (h1 : q.bar < (l.length : Int)) (hb : stB l q.bar.toNat q.pass q.jump (rd_T38 l q.bar) = true) (hf : (x9.length : Int) = 2000) :
    Ev (fun k => partitaref10_walk.j3 k l x9 x10 q.bar q.pass q.mark q.closed (decide (q.jump ≠ 0)) q.fn q.cd false s c j fi_ co (rd_T38 l q.bar).f0 (rd_T38 l q.bar).f1 (rd_T38 l q.bar).f3 (rd_T38 l q.bar).f4 (rd_T38 l q.bar).f5 (rd_T38 l q.bar).f6 (rd_T38 l q.bar).f7) ([], [], 101, q.bar, q.pass, q.mark, q.closed, decide (q.jump ≠ 0), q.fn, q.cd, false) := by
  have st := stands_ev hl hs q.bar.toNat (by omega) q.pass q.mark q.jump q.closed q.fn q.cd false
  rw [Int.toNat_of_nonneg h0] at st
  exact Ev.step (fun k => rfl) (Ev.bind st (Ev.yes hb (Ev.yes hf (Ev.now _))))
theorem play_ev {l : List S38} (hl : l.length ≤ 140737488351232) (hs : Short l) (x9 x10 : List Int) (q : Wk) (s c j : Int) (fi_ co : Bool) (h0 : 0 ≤ q.bar) (h1 : q.bar < (l.length : Int)) (hp0 : 1 ≤ q.pass) (hp1 : q.pass ≤ 1000000) {t : List Int × List Int × Int × Int × Int × Int × Bool × Bool × Bool × Bool × Bool}
    (hb : stB l q.bar.toNat q.pass q.jump (rd_T38 l q.bar) = true) (h9 : x9.length < 2000) (h10 : x10.length < 2000) {o : Int × Int × Int × Bool × Bool × Bool × Bool × Bool} (ho : onR s c q (rd_T38 l q.bar) = o)
    (h : Ev (fun k => partitaref10_walk.l0 k l (x9 ++ [q.bar]) (x10 ++ [q.pass]) o.1 o.2.1 o.2.2.1 o.2.2.2.1 o.2.2.2.2.1 o.2.2.2.2.2.1 o.2.2.2.2.2.2.1 o.2.2.2.2.2.2.2 s c j fi_ co) t) :
    Ev (fun k => partitaref10_walk.j3 k l x9 x10 q.bar q.pass q.mark q.closed (decide (q.jump ≠ 0)) q.fn q.cd false s c j fi_ co (rd_T38 l q.bar).f0 (rd_T38 l q.bar).f1 (rd_T38 l q.bar).f3 (rd_T38 l q.bar).f4 (rd_T38 l q.bar).f5 (rd_T38 l q.bar).f6 (rd_T38 l q.bar).f7) t := by
  have st := stands_ev hl hs q.bar.toNat (by omega) q.pass q.mark q.jump q.closed q.fn q.cd false
  rw [Int.toNat_of_nonneg h0] at st
  refine Ev.step (fun k => rfl) (Ev.bind st (Ev.yes hb (Ev.no (by omega) (Ev.yes (by omega) (Ev.yes (by omega) (Ev.bind (Ev.ok (on_ev hl s c j fi_ co q h0 h1 hp0 hp1) ho) ?_))))))
  exact h
theorem end_ev {l : List S38} (x9 x10 : List Int) (bar pass mark : Int) (b4 b5 b6 b7 e : Bool) (s c j : Int) (fi_ co : Bool) (h : e = true ∨ ¬ bar < (l.length : Int)) :
    Ev (fun k => partitaref10_walk.l0 k l x9 x10 bar pass mark b4 b5 b6 b7 e s c j fi_ co) (x9, x10, 0, bar, pass, mark, b4, b5, b6, b7, e) := by
  by_cases he : e = true
  · exact Ev.step (fun k => rfl) (Ev.yes he (Ev.step (fun k => rfl) (Ev.now _)))
  · exact Ev.step (fun k => rfl) (Ev.no he (Ev.step (fun k => rfl) (Ev.no (by rw [decide_eq_true_eq]; exact h.resolve_left he) (Ev.now _))))
theorem sim {l : List S38} (hl : l.length ≤ 140737488351232) (hs : Short l) (s c j : Int) (fi_ co : Bool) (hs1 : s ≤ (l.length : Int)) (hc1 : c ≤ (l.length : Int))
    (hS : ∀ i : Nat, i < l.length → (rd_T38 l (i : Int)).f7 ≥ 4 → 0 ≤ s) (hC : ∀ i : Nat, i < l.length → isCoda (rd_T38 l (i : Int)).f7 = true → 0 ≤ c) (m : Nat) :
    ∀ (d : Nat) (q : Wk) (acc : List (Int × Int)), acc.length + m = 2000 → q.bar + d = (l.length : Int) → Good l c q acc.length →
    ∃ r : List (Int × Int) × Bool, (∃ K, ∀ k n, K ≤ k → K ≤ n → wkL k l s c n q acc = some r) ∧ r.1.length ≤ 2000 ∧
      ∃ t, Ev (fun k => partitaref10_walk.l0 k l (acc.map Prod.fst) (acc.map Prod.snd) q.bar q.pass q.mark q.closed (decide (q.jump ≠ 0)) q.fn q.cd false s c j fi_ co) t ∧ (t.1, t.2.1, t.2.2.1) = walkEnd r := by
  induction m using Nat.strongRecOn with
  | ind m ihm =>
    intro d
    induction d with
    | zero =>
      intro q acc hacc hd hg
      refine ⟨(acc, false), ⟨1, fun k n hk hn => ?_⟩, by show acc.length ≤ 2000; omega, _, end_ev _ _ _ _ _ _ _ _ _ _ s c j fi_ co (.inr (by omega)), rfl⟩
      obtain ⟨n, rfl⟩ : ∃ m, n = m + 1 := ⟨n - 1, by omega⟩
      rw [wkL, if_neg (by omega)]
    | succ d ihd =>
      intro q acc hacc hd hg
      have h0 := hg.b0
      have h1 : q.bar < (l.length : Int) := by omega
      have hge := hg.enter (rd_T38 l q.bar)
      have hbar := enterW_bar q (rd_T38 l q.bar)
      have hpp : 0 ≤ q.bar ∧ 0 ≤ q.pass ∧ q.pass ≤ 140737488351232 := ⟨h0, by have := hg.p0; omega, by have := hg.p1; omega⟩
      have hst := stO_ev l q.bar.toNat (enterW q (rd_T38 l q.bar)).pass (enterW q (rd_T38 l q.bar)).jump (rd_T38 l q.bar) (rd_short hs _)
      have hnat : (q.bar.toNat : Int) = q.bar := Int.toNat_of_nonneg h0
      cases hb : stB l q.bar.toNat (enterW q (rd_T38 l q.bar)).pass (enterW q (rd_T38 l q.bar)).jump (rd_T38 l q.bar) with
      | false =>
        rw [hb] at hst
        obtain ⟨K2, hK2⟩ := hst
        have hgs := hge.skip (by rw [hbar]; exact h1) (rd_T38 l q.bar)
        obtain ⟨r, ⟨K, hK⟩, hf, t, ht, hr⟩ := ihd (skipW (enterW q (rd_T38 l q.bar)) (rd_T38 l q.bar)) acc hacc (by show (enterW q (rd_T38 l q.bar)).bar + 1 + (d : Int) = _; rw [hbar]; omega) hgs
        refine ⟨r, ⟨K + K2 + 1, fun k n hk hn => ?_⟩, hf, t, ?_, hr⟩
        · obtain ⟨n, rfl⟩ : ∃ m, n = m + 1 := ⟨n - 1, by omega⟩
          rw [wkL, if_pos h1, if_pos hpp, (show stO k l _ _ _ _ = some _ from hK2 k (by omega)), Option.bind_some, if_neg (by decide)]
          exact hK k n (by omega) (by omega)
        · refine enter_ev _ _ q s c j fi_ co h0 h1 ?_
          have := skip_ev hl hs (acc.map Prod.fst) (acc.map Prod.snd) (enterW q (rd_T38 l q.bar)) s c j fi_ co (by rw [hbar]; exact h0) (by rw [hbar]; exact h1) (t := t)
          rw [hbar] at this
          rw [hbar]
          exact this hb ht
      | true =>
        rw [hb] at hst
        obtain ⟨K2, hK2⟩ := hst
        by_cases hfull : acc.length = 2000
        · refine ⟨(acc, true), ⟨K2 + 1, fun k n hk hn => ?_⟩, by show acc.length ≤ 2000; omega, ([], [], 101, q.bar, (enterW q (rd_T38 l q.bar)).pass, (enterW q (rd_T38 l q.bar)).mark, (enterW q (rd_T38 l q.bar)).closed, decide ((enterW q (rd_T38 l q.bar)).jump ≠ 0), (enterW q (rd_T38 l q.bar)).fn, (enterW q (rd_T38 l q.bar)).cd, false), enter_ev _ _ q s c j fi_ co h0 h1 ?_, ?_⟩
          · obtain ⟨n, rfl⟩ : ∃ m, n = m + 1 := ⟨n - 1, by omega⟩
            rw [wkL, if_pos h1, if_pos hpp, (show stO k l _ _ _ _ = some _ from hK2 k (by omega)), Option.bind_some, if_pos rfl, if_pos hfull]
          · have := full_ev hl hs (acc.map Prod.fst) (acc.map Prod.snd) (enterW q (rd_T38 l q.bar)) s c j fi_ co (by rw [hbar]; exact h0) (by rw [hbar]; exact h1)
            rw [hbar] at this
            rw [hbar]
            exact this hb (by simp; omega)
          · rfl
        · have hplay := fun (o : Int × Int × Int × Bool × Bool × Bool × Bool × Bool) (t) => play_ev hl hs (acc.map Prod.fst) (acc.map Prod.snd) (enterW q (rd_T38 l q.bar)) s c j fi_ co (by rw [hbar]; exact h0) (by rw [hbar]; exact h1) hge.p0 (by have := hge.p1; omega) (o := o) (t := t)
          rw [hbar] at hplay
          have l9 : (acc.map Prod.fst).length < 2000 := by rw [List.length_map]; omega
          have l10 : (acc.map Prod.snd).length < 2000 := by rw [List.length_map]; omega
          cases ho : onW s c (enterW q (rd_T38 l q.bar)) (rd_T38 l q.bar) with
          | none =>
            refine ⟨(acc ++ [(q.bar, (enterW q (rd_T38 l q.bar)).pass)], false), ⟨K2 + 1, fun k n hk hn => ?_⟩, by show (acc ++ [_]).length ≤ 2000; rw [List.length_append, List.length_singleton]; omega, ?_⟩
            · obtain ⟨n, rfl⟩ : ∃ m, n = m + 1 := ⟨n - 1, by omega⟩
              rw [wkL, if_pos h1, if_pos hpp, (show stO k l _ _ _ _ = some _ from hK2 k (by omega)), Option.bind_some, if_pos rfl, if_neg hfull, ho]
            · have hoR : onR s c (enterW q (rd_T38 l q.bar)) (rd_T38 l q.bar) = stOf (enterW q (rd_T38 l q.bar)) true := by unfold onR; rw [ho]
              refine ⟨(acc.map Prod.fst ++ [q.bar], acc.map Prod.snd ++ [(enterW q (rd_T38 l q.bar)).pass], 0, stOf (enterW q (rd_T38 l q.bar)) true), enter_ev _ _ q s c j fi_ co h0 h1 ?_, ?_⟩
              · rw [hbar]
                exact hplay _ _ hb l9 l10 hoR (end_ev _ _ _ _ _ _ _ _ _ _ s c j fi_ co (.inl rfl))
              · unfold walkEnd
                rw [if_neg (fun h => by cases h)]
                simp
          | some q2 =>
            have hnx : (rd_T38 l ((q.bar.toNat : Nat) : Int)) = rd_T38 l q.bar := by rw [hnat]
            have hg2 := hge.on (by rw [hbar]; exact h1) (rd_T38 l q.bar) hs1 hc1 (fun h => hS q.bar.toNat (by omega) (by rw [hnx]; exact h)) (fun h => hC q.bar.toNat (by omega) (by rw [hnx]; exact h)) ho
            have hoR : onR s c (enterW q (rd_T38 l q.bar)) (rd_T38 l q.bar) = stOf q2 false := by unfold onR; rw [ho]
            obtain ⟨r, ⟨K, hK⟩, hf, t, ht, hr⟩ := ihm (m - 1) (by omega) ((l.length : Int) - q2.bar).toNat q2 (acc ++ [(q.bar, (enterW q (rd_T38 l q.bar)).pass)]) (by simp; omega) (by have := hg2.b1; omega) (by simpa using hg2)
            refine ⟨r, ⟨K + K2 + 1, fun k n hk hn => ?_⟩, hf, t, ?_, hr⟩
            · obtain ⟨n, rfl⟩ : ∃ m, n = m + 1 := ⟨n - 1, by omega⟩
              rw [wkL, if_pos h1, if_pos hpp, (show stO k l _ _ _ _ = some _ from hK2 k (by omega)), Option.bind_some, if_pos rfl, if_neg hfull, ho]
              exact hK k n (by omega) (by omega)
            · refine enter_ev _ _ q s c j fi_ co h0 h1 ?_
              rw [hbar]
              rw [List.map_append, List.map_append] at ht
              exact hplay _ _ hb l9 l10 hoR ht
theorem lacks_not {l : List S38} {s c g : Int} (h : ¬ lacksB l s c g = true) : (g ≥ 4 → 0 ≤ s) ∧ (isCoda g = true → 0 ≤ c) := by
  unfold lacksB at h
  constructor
  · intro h4
    by_cases hs : s < 0
    · exact absurd (by simp [h4, hs]) h
    · omega
  · intro h4
    unfold isCoda at h4
    by_cases hs : c < 0
    · exact absurd (by simp only [h4, decide_eq_true hs, Bool.true_or, Bool.and_self, Bool.or_true]) h
    · omega
theorem both_ev {l : List S38} (hl : l.length ≤ 140737488351232) (hs : Short l) : ∃ r : List Int × List Int × Int, Ev (fun k => turns_walk.f k l) r ∧ Ev (fun k => partitaref10_walk.f k l) r ∧ r.1.length ≤ 2000 ∧ r.2.1.length ≤ 2000 := by
  by_cases he : (chkR l).2 = 0
  · have hchk : chkB (fi (fun x => x.f3) 0 l) (fi (fun x => x.f4) 0 l) (fi isJump 0 l) 0 l = none := by
      cases h : chkB (fi (fun x => x.f3) 0 l) (fi (fun x => x.f4) 0 l) (fi isJump 0 l) 0 l with
      | none => rfl
      | some i => unfold chkR at he; rw [h] at he; exact absurd he (by show ¬ (100 : Int) = 0; decide)
    have hok := okay_of hchk
    have hlack : ∀ i : Nat, i < l.length → isJump (rd_T38 l (i : Int)) = true → ¬ lacksB l (fi (fun x => x.f3) 0 l) (fi (fun x => x.f4) 0 l) (rd_T38 l (i : Int)).f7 = true := fun i hi hj h => by
      unfold chkR at he
      rw [hchk] at he
      dsimp only at he
      rw [once_fi hok.jump hi hj, if_neg (by omega), if_pos h] at he
      exact absurd he (by show ¬ (100 : Int) = 0; decide)
    have hle : ∀ p : S38 → Bool, fi p 0 l ≤ (l.length : Int) := fun p => by
      rcases fi_spec p l with ⟨e, _⟩ | ⟨i, h1, e, _⟩ <;> omega
    have hS : ∀ i : Nat, i < l.length → (rd_T38 l (i : Int)).f7 ≥ 4 → 0 ≤ fi (fun x => x.f3) 0 l := fun i hi h => (lacks_not (hlack i hi (decide_eq_true (by omega)))).1 h
    have hC : ∀ i : Nat, i < l.length → isCoda (rd_T38 l (i : Int)).f7 = true → 0 ≤ fi (fun x => x.f4) 0 l := fun i hi h => (lacks_not (hlack i hi (decide_eq_true (by
      intro e
      rw [e] at h
      exact absurd h (by decide))))).2 h
    obtain ⟨r, ⟨K, hK⟩, hf, t, ht, hr⟩ := sim hl hs (fi (fun x => x.f3) 0 l) (fi (fun x => x.f4) 0 l) (fi isJump 0 l) (decide (¬ fi (fun x => x.f6) 0 l < 0)) (decide (¬ fi (fun x => x.f5) 0 l < 0)) (hle _) (hle _) hS hC 2000 l.length ⟨0, 1, 0, false, 0, false, false⟩ [] (by simp) (by show (0 : Int) + _ = _; omega)
      ⟨Int.le_refl _, by show (0 : Int) ≤ _; omega, Int.le_refl _, by show (0 : Int) ≤ _; omega, Int.le_refl _, by show (1 : Int) ≤ _; omega, fun e => by cases e⟩
    refine ⟨walkEnd r, ?_, ?_, by unfold walkEnd; split <;> simp [hf], by unfold walkEnd; split <;> simp [hf]⟩
    · unfold turns_walk.f
      exact Ev.bind (check_ev l hl hs) (Ev.yes he (Ev.bind ⟨K, fun k hk => hK k k hk hk⟩ (Ev.now _)))
    · unfold partitaref10_walk.f partitaref10_walk.v
      refine Ev.bind (Ev.bind (refCheck_ev hl hs) (Ev.yes he (Ev.bind (seen_ev hl hok.sign hok.coda hok.jump) ht))) ?_
      rw [← hr]
      exact Ev.now _
  · refine ⟨([], [], (chkR l).2), ?_, ?_, by simp, by simp⟩
    · unfold turns_walk.f
      exact Ev.bind (check_ev l hl hs) (Ev.no he (Ev.now _))
    · unfold partitaref10_walk.f partitaref10_walk.v
      exact Ev.bind (Ev.bind (refCheck_ev hl hs) (Ev.no he (Ev.now _))) (Ev.now _)
theorem refUnfold_ev {l : List S38} {r : List Int × List Int × Int} (h : Ev (fun k => partitaref10_walk.f k l) r) : Ev (fun k => partitaref10_Unfold.f k l) (r.1, r.2.2) := by
  unfold partitaref10_Unfold.f
  exact Ev.bind h (Ev.now _)
theorem refPasses_ev {l : List S38} {r : List Int × List Int × Int} (h : Ev (fun k => partitaref10_walk.f k l) r) : Ev (fun k => partitaref10_Passes.f k l) (r.2.1, r.2.2) := by
  unfold partitaref10_Passes.f
  exact Ev.bind h (Ev.now _)
end Go.Proofs.Ytendmmagjjhfnaa.Z
namespace Go.Proofs.Ytendmmagjjhfnaa.Z
open Go.RowKit Go.Proofs.YtendmmagjjhfnaaW.PrintWords Go.Proofs.YtendmmagjjhfnaaW.PrintLast Go.Proofs.Ytendmmagjjhfnaa.M
set_option linter.unusedVariables false
set_option linter.unusedSimpArgs false
theorem u8_wf {n : Int} (h : (Lit.int .u8 n).wf = true) : 0 ≤ n ∧ n ≤ 255 := by
  simpa [Lit.wf, IntKind.min, IntKind.max, IntKind.signed, IntKind.bits] using h
structure MadeB (x : S38) : Prop where
  jump : x.f7 = 0
  sign : x.f3 = false
  coda : x.f4 = false
  times : x.f1 = 0 ∨ (2 ≤ x.f1 ∧ x.f1 ≤ 9)
  few : x.f2.length ≤ 2
  ends : endsB 0 x.f2 = true
def Byte (n : Int) : Prop := 0 ≤ n ∧ n ≤ 255
theorem byte_wf {n : Int} (h : (Lit.int .u8 n).wf = true) : Byte n := by have := u8_wf h; exact ⟨by omega, by omega⟩
def mk38 (t : Bool × Int × List Int × Bool × Bool × Bool × Bool × Int) : S38 := ⟨t.1, t.2.1, t.2.2.1, t.2.2.2.1, t.2.2.2.2.1, t.2.2.2.2.2.1, t.2.2.2.2.2.2.1, t.2.2.2.2.2.2.2⟩
theorem tmw {b : Int} (hb : Byte b) (m : Int) (h0 : 0 < m) (h1 : m ≤ 16) : ∃ r : Int, wrap64 (Int.tmod b m) = r ∧ 0 ≤ r ∧ r < m := by
  refine ⟨b % m, ?_, Int.emod_nonneg b (by omega), Int.emod_lt_of_pos b h0⟩
  have h3 := Int.emod_nonneg b (b := m) (by omega)
  have h4 := Int.emod_lt_of_pos b h0
  rw [Int.tmod_eq_emod_of_nonneg hb.1, w64 (by omega) (by omega)]
theorem ends_one {n : Int} (h0 : 1 ≤ n) (h1 : n ≤ 9) : endsB 0 [n] = true := by
  rw [endsB, if_neg (by omega), if_neg (by omega)]; rfl
theorem ends_two {n : Int} (h0 : 2 ≤ n) (h1 : n ≤ 9) : endsB 0 [1, n] = true := by
  rw [endsB, if_neg (by omega), if_neg (by omega), endsB, if_neg (by omega), if_neg (by omega)]; rfl
theorem turn_j1 (x7 : Int) (x12 : Bool) (a b c : Int) (hb : Byte b) (hc : Byte c) : ∃ t, Ev (fun k => partitalaw10_Turn_turn.j1 k x7 x12 a b c false 0 false false false false 0) t ∧ MadeB (mk38 t) := by
  obtain ⟨r3, e3, g3, g3'⟩ := tmw hb 3 (by omega) (by omega)
  obtain ⟨r2, e2, g2, g2'⟩ := tmw hb 2 (by omega) (by omega)
  obtain ⟨s2, f2, k2, k2'⟩ := tmw hc 2 (by omega) (by omega)
  obtain ⟨r8, e8, g8, g8'⟩ := tmw hb 8 (by omega) (by omega)
  have t3 : wrap64 (2 + wrap64 (Int.tmod b 3)) = 2 + r3 := by rw [e3, w64 (by omega) (by omega)]
  have o3 : wrap64 (1 + wrap64 (Int.tmod b 3)) = 1 + r3 := by rw [e3, w64 (by omega) (by omega)]
  have t2 : wrap64 (2 + wrap64 (Int.tmod b 2)) = 2 + r2 := by rw [e2, w64 (by omega) (by omega)]
  have u2 : wrap64 (2 + wrap64 (Int.tmod c 2)) = 2 + s2 := by rw [f2, w64 (by omega) (by omega)]
  have t8 : wrap64 (2 + wrap64 (Int.tmod b 8)) = 2 + r8 := by rw [e8, w64 (by omega) (by omega)]
  clear e3 e2 f2 e8
  by_cases h12 : x12 = true
  · refine ⟨_, Ev.step (fun k => rfl) (Ev.yes h12 (Ev.now _)), rfl, rfl, rfl, ?_, by simp [mk38], rfl⟩
    right; simp only [mk38]; rw [t3]; omega
  by_cases h4 : x7 = 4
  · refine ⟨_, Ev.step (fun k => rfl) (Ev.no h12 (Ev.yes h4 (Ev.now _))), rfl, rfl, rfl, ?_, by simp [mk38], ?_⟩
    · right; simp only [mk38]; rw [u2]; omega
    · simp only [mk38]; rw [o3]; exact ends_one (by omega) (by omega)
  by_cases h5 : x7 = 5
  · refine ⟨_, Ev.step (fun k => rfl) (Ev.no h12 (Ev.no h4 (Ev.yes h5 (Ev.now _)))), rfl, rfl, rfl, .inl rfl, by simp [mk38], ?_⟩
    simp only [mk38]; rw [o3]; exact ends_one (by omega) (by omega)
  by_cases h6 : x7 = 6
  · refine ⟨_, Ev.step (fun k => rfl) (Ev.no h12 (Ev.no h4 (Ev.no h5 (Ev.yes h6 (Ev.now _))))), rfl, rfl, rfl, .inr (by simp only [mk38]; omega), by simp [mk38], ?_⟩
    simp only [mk38]; rw [t2]; exact ends_two (by omega) (by omega)
  by_cases h7 : x7 = 7
  · exact ⟨_, Ev.step (fun k => rfl) (Ev.no h12 (Ev.no h4 (Ev.no h5 (Ev.no h6 (Ev.yes h7 (Ev.now _)))))), rfl, rfl, rfl, .inl rfl, by simp [mk38], rfl⟩
  by_cases h8 : x7 = 8
  · exact ⟨_, Ev.step (fun k => rfl) (Ev.no h12 (Ev.no h4 (Ev.no h5 (Ev.no h6 (Ev.no h7 (Ev.yes h8 (Ev.now _))))))), rfl, rfl, rfl, .inl rfl, by simp [mk38], rfl⟩
  by_cases h9 : x7 = 9
  · refine ⟨_, Ev.step (fun k => rfl) (Ev.no h12 (Ev.no h4 (Ev.no h5 (Ev.no h6 (Ev.no h7 (Ev.no h8 (Ev.yes h9 (Ev.now _)))))))), rfl, rfl, rfl, ?_, by simp [mk38], rfl⟩
    right; simp only [mk38]; rw [t8]; omega
  · exact ⟨_, Ev.step (fun k => rfl) (Ev.no h12 (Ev.no h4 (Ev.no h5 (Ev.no h6 (Ev.no h7 (Ev.no h8 (Ev.no h9 (Ev.now _)))))))), rfl, rfl, rfl, .inl rfl, by simp [mk38], rfl⟩
theorem turn_j0 (x7 : Int) (x8 : Bool) (a b c : Int) (hb : Byte b) (hc : Byte c) : ∃ t, Ev (fun k => partitalaw10_Turn_turn.j0 k x7 x8 a b c false 0 false false false false 0) t ∧ MadeB (mk38 t) := by
  by_cases h8 : x8 = true
  · exact ⟨_, Ev.step (fun k => rfl) (Ev.yes h8 (Ev.now _)), rfl, rfl, rfl, .inl rfl, by simp [mk38], rfl⟩
  by_cases h2 : x7 = 2
  · obtain ⟨t, h, m⟩ := turn_j1 x7 (x7 == 2) a b c hb hc
    exact ⟨t, Ev.step (fun k => rfl) (Ev.no h8 (Ev.yes h2 h)), m⟩
  · obtain ⟨t, h, m⟩ := turn_j1 x7 (x7 == 3) a b c hb hc
    exact ⟨t, Ev.step (fun k => rfl) (Ev.no h8 (Ev.no h2 h)), m⟩
theorem turn_ev (a b c : Int) (hb : Byte b) (hc : Byte c) : ∃ t, Ev (fun k => partitalaw10_Turn_turn.f k a b c) t ∧ MadeB (mk38 t) := by
  unfold partitalaw10_Turn_turn.f
  by_cases h : Int.tmod a 16 = 0
  · obtain ⟨t, h1, m⟩ := turn_j0 (Int.tmod a 16) (Int.tmod a 16 == 0) a b c hb hc
    exact ⟨t, Ev.yes h h1, m⟩
  · obtain ⟨t, h1, m⟩ := turn_j0 (Int.tmod a 16) (Int.tmod a 16 == 1) a b c hb hc
    exact ⟨t, Ev.no h h1, m⟩
def Bytes (l : List S46) : Prop := ∀ x ∈ l, Byte x.f0 ∧ Byte x.f1 ∧ Byte x.f2
theorem rd46_byte {l : List S46} (h : Bytes l) (i : Int) : Byte (rd_T46 l i).f0 ∧ Byte (rd_T46 l i).f1 ∧ Byte (rd_T46 l i).f2 := by
  unfold rd_T46
  rw [List.getD_eq_getElem?_getD]
  cases hi : l[i.toNat]? with
  | none => simp [z46, Byte]
  | some x => exact h x (List.mem_of_getElem? hi)
theorem short_set {l : List S38} (h : Short l) (i : Nat) {x : S38} (hx : x.f2.length ≤ 9223372036854775807) : Short (l.set i x) := by
  intro y hy
  rcases List.mem_or_eq_of_mem_set hy with h1 | h1
  · exact h y h1
  · rw [h1]; exact hx
def Row (n : Nat) (r : List S38) : Prop := r.length = n ∧ Short r
theorem Row.set {n : Nat} {l : List S38} (h : Row n l) (i : Nat) (j : Int) (a : Bool) (b : Int) (c d e f : Bool) (g : Int) : Row n (l.set i (⟨a, b, (rd_T38 l j).f2, c, d, e, f, g⟩ : S38)) :=
  ⟨by rw [List.length_set]; exact h.1, short_set h.2 i (rd_short h.2 j)⟩
theorem made_j5 (x4 g : Int) {l : List S38} {m : Nat} (h : Row m l) (h0 : 0 < l.length) (b4 : Byte x4) : ∃ r, Ev (fun k => partitalaw10_Made.j5 k x4 l (l.length : Int) g) r ∧ Row m r := by
  have n0 : (0 : Int) < (l.length : Int) := by omega
  have w4 : wrap64 x4 = x4 := w64 (by have := b4.1; omega) (by have := b4.2; omega)
  have t4 : Int.tmod x4 (l.length : Int) = x4 % (l.length : Int) := Int.tmod_eq_emod_of_nonneg b4.1
  have i0 := Int.emod_nonneg x4 (b := (l.length : Int)) (by omega)
  have i1 := Int.emod_lt_of_pos x4 n0
  have j0 := Int.emod_nonneg (Int.tdiv x4 3 % 256) (b := (l.length : Int)) (by omega)
  have j1 := Int.emod_lt_of_pos (Int.tdiv x4 3 % 256) n0
  have nz : ¬ (l.length : Int) = 0 := by omega
  have key : ∃ r, (∀ k, partitalaw10_Made.j5 (k + 1) x4 l (l.length : Int) g = some r) ∧ Row m r := by
    by_cases h3 : g = 3 <;> by_cases h6 : g = 6 <;>
      simp only [partitalaw10_Made.j5, w4, t4, if_pos i0, if_pos i1, if_pos j0, if_pos j1, if_neg nz, h3, h6, Option.bind_some, if_true, if_false, reduceIte] <;>
      first
      | exact ⟨_, fun _ => rfl, h⟩
      | exact ⟨_, fun _ => rfl, (h.set _ _ _ _ _ _ _ _ _).set _ _ _ _ _ _ _ _ _⟩
      | (exfalso; omega)
  obtain ⟨r, hr, hR⟩ := key
  exact ⟨r, Ev.step (f := fun _ => some r) hr (Ev.now r), hR⟩
theorem made_j4 (x3 x4 g : Int) (b : Bool) {l : List S38} {m : Nat} (h : Row m l) (h0 : 0 < l.length) (b3 : Byte x3) (b4 : Byte x4) : ∃ r, Ev (fun k => partitalaw10_Made.j4 k x3 x4 l (l.length : Int) g b) r ∧ Row m r := by
  have n0 : (0 : Int) < (l.length : Int) := by omega
  have k0 := Int.emod_nonneg (Int.tdiv x3 2 % 256) (b := (l.length : Int)) (by omega)
  have k1 := Int.emod_lt_of_pos (Int.tdiv x3 2 % 256) n0
  have nz : ¬ (l.length : Int) = 0 := by omega
  have key : ∃ y, (∀ k, partitalaw10_Made.j4 (k + 1) x3 x4 l (l.length : Int) g b = partitalaw10_Made.j5 k x4 y (l.length : Int) g) ∧ Row m y := by
    cases b <;> simp only [partitalaw10_Made.j4, if_pos k0, if_pos k1, if_neg nz, reduceIte, Bool.false_eq_true, if_false]
    · exact ⟨_, fun _ => rfl, h⟩
    · exact ⟨_, fun _ => rfl, h.set _ _ _ _ _ _ _ _ _⟩
  obtain ⟨y, hy, hY⟩ := key
  have hyl : y.length = l.length := hY.1.trans h.1.symm
  obtain ⟨r, hr, hR⟩ := made_j5 x4 g hY (by rw [hyl]; exact h0) b4
  rw [hyl] at hr
  exact ⟨r, Ev.step hy hr, hR⟩
theorem made_j3 (x3 x4 g : Int) {l : List S38} {m : Nat} (h : Row m l) (h0 : 0 < l.length) (b3 : Byte x3) (b4 : Byte x4) : ∃ r, Ev (fun k => partitalaw10_Made.j3 k x3 x4 l (l.length : Int) g) r ∧ Row m r := by
  by_cases h2 : g = 2
  · obtain ⟨r, hr, hR⟩ := made_j4 x3 x4 g true h h0 b3 b4
    exact ⟨r, Ev.step (fun k => rfl) (Ev.yes h2 hr), hR⟩
  · obtain ⟨r, hr, hR⟩ := made_j4 x3 x4 g (g == 5) h h0 b3 b4
    exact ⟨r, Ev.step (fun k => rfl) (Ev.no h2 hr), hR⟩
theorem made_j2 (x1 x2 x3 x4 : Int) (b : Bool) {l : List S38} (h : Short l) (hb : b = true ∨ 0 < l.length) (b2 : Byte x2) (b3 : Byte x3) (b4 : Byte x4) : ∃ r, Ev (fun k => partitalaw10_Made.j2 k x1 x2 x3 x4 l (l.length : Int) b) r ∧ Row l.length r := by
  by_cases hb1 : b = true
  · exact ⟨l, Ev.step (fun k => rfl) (Ev.yes hb1 (Ev.now _)), rfl, h⟩
  have h0 : 0 < l.length := hb.resolve_left hb1
  have n0 : (0 : Int) < (l.length : Int) := by omega
  have w2 : wrap64 x2 = x2 := w64 (by have := b2.1; omega) (by have := b2.2; omega)
  have w3 : wrap64 x3 = x3 := w64 (by have := b3.1; omega) (by have := b3.2; omega)
  have t2 : Int.tmod x2 (l.length : Int) = x2 % (l.length : Int) := Int.tmod_eq_emod_of_nonneg b2.1
  have t3 : Int.tmod x3 (l.length : Int) = x3 % (l.length : Int) := Int.tmod_eq_emod_of_nonneg b3.1
  have i0 := Int.emod_nonneg x2 (b := (l.length : Int)) (by omega)
  have i1 := Int.emod_lt_of_pos x2 n0
  have j0 := Int.emod_nonneg x3 (b := (l.length : Int)) (by omega)
  have j1 := Int.emod_lt_of_pos x3 n0
  have nz : ¬ (l.length : Int) = 0 := by omega
  have hr0 : Row l.length l := ⟨rfl, h⟩
  have key : ∃ y, (∀ k, partitalaw10_Made.j2 (k + 1) x1 x2 x3 x4 l (l.length : Int) b = partitalaw10_Made.j3 k x3 x4 y (l.length : Int) (wrap64 (Int.tmod x1 7))) ∧ Row l.length y := by
    by_cases h4 : wrap64 (Int.tmod x1 7) ≥ 4
    · simp only [partitalaw10_Made.j2, if_neg hb1, if_neg nz, w2, w3, t2, t3, if_pos i0, if_pos i1, if_pos j0, if_pos j1, if_pos h4, Option.bind_some]
      exact ⟨_, fun _ => rfl, (hr0.set _ _ _ _ _ _ _ _ _).set _ _ _ _ _ _ _ _ _⟩
    · simp only [partitalaw10_Made.j2, if_neg hb1, if_neg nz, w2, w3, t2, t3, if_pos i0, if_pos i1, if_pos j0, if_pos j1, if_neg h4, Option.bind_some]
      exact ⟨_, fun _ => rfl, hr0.set _ _ _ _ _ _ _ _ _⟩
  obtain ⟨y, hy, hY⟩ := key
  obtain ⟨r, hr, hR⟩ := made_j3 x3 x4 (wrap64 (Int.tmod x1 7)) hY (by rw [hY.1]; exact h0) b3 b4
  rw [hY.1] at hr
  exact ⟨r, Ev.step hy hr, hR⟩
theorem made_j1 (x1 x2 x3 x4 : Int) {l : List S38} (h : Short l) (b2 : Byte x2) (b3 : Byte x3) (b4 : Byte x4) : ∃ r, Ev (fun k => partitalaw10_Made.j1 k x1 x2 x3 x4 l) r ∧ Row l.length r := by
  by_cases h0 : (l.length : Int) = 0
  · obtain ⟨r, hr, hR⟩ := made_j2 x1 x2 x3 x4 true h (.inl rfl) b2 b3 b4
    exact ⟨r, Ev.step (fun k => rfl) (Ev.yes h0 hr), hR⟩
  · obtain ⟨r, hr, hR⟩ := made_j2 x1 x2 x3 x4 (Int.tmod x1 7 == 0) h (.inr (by omega)) b2 b3 b4
    exact ⟨r, Ev.step (fun k => rfl) (Ev.no h0 hr), hR⟩
theorem made_l0 (l : List S46) (hl : Bytes l) (x1 x2 x3 x4 : Int) (b2 : Byte x2) (b3 : Byte x3) (b4 : Byte x4) : ∀ (d i : Nat) (acc : List S38), d + i = 30 → acc.length = i → (∀ x ∈ acc, MadeB x) → ∃ r, Ev (fun k => partitalaw10_Made.l0 k l x1 x2 x3 x4 acc (i : Int)) r ∧ r.length ≤ 30 ∧ Short r := by
  have fin : ∀ acc : List S38, acc.length ≤ 30 → (∀ x ∈ acc, MadeB x) → ∃ r, Ev (fun k => partitalaw10_Made.j1 k x1 x2 x3 x4 acc) r ∧ r.length ≤ 30 ∧ Short r := fun acc ha hm => by
    obtain ⟨r, hr, h1, h2⟩ := made_j1 x1 x2 x3 x4 (l := acc) (fun x hx => by have := (hm x hx).few; omega) b2 b3 b4
    exact ⟨r, hr, by omega, h2⟩
  intro d
  induction d with
  | zero =>
    intro i acc h ha hm
    obtain ⟨r, hr, h1, h2⟩ := fin acc (by omega) hm
    refine ⟨r, Ev.step (fun k => rfl) ?_, h1, h2⟩
    by_cases h1 : (i : Int) < (l.length : Int)
    · exact Ev.yes h1 (Ev.no (by omega) hr)
    · exact Ev.no h1 hr
  | succ d ih =>
    intro i acc h ha hm
    by_cases h1 : (i : Int) < (l.length : Int)
    · obtain ⟨b0, b1, b2⟩ := rd46_byte hl (i : Int)
      obtain ⟨t, ht, mt⟩ := turn_ev (rd_T46 l (i : Int)).f0 (rd_T46 l (i : Int)).f1 (rd_T46 l (i : Int)).f2 b1 b2
      obtain ⟨r, hr, m, n⟩ := ih (i + 1) (acc ++ [mk38 t]) (by omega) (by simp; omega) (by
        intro x hx
        rcases List.mem_append.mp hx with hx | hx
        · exact hm x hx
        · rw [List.mem_singleton.mp hx]; exact mt)
      refine ⟨r, Ev.step (fun k => rfl) (Ev.yes h1 (Ev.yes (by omega) (Ev.yes (by omega) (Ev.bind ht (Ev.yes (by omega) ?_))))), m, n⟩
      have e : wrap64 ((i : Int) + 1) = ((i + 1 : Nat) : Int) := by rw [w64 (by omega) (by omega)]; omega
      rw [e]
      exact hr
    · obtain ⟨r, hr, g1, g2⟩ := fin acc (by omega) hm
      exact ⟨r, Ev.step (fun k => rfl) (Ev.no h1 hr), g1, g2⟩
theorem made_ev (l : List S46) (hl : Bytes l) (x1 x2 x3 x4 : Int) (b2 : Byte x2) (b3 : Byte x3) (b4 : Byte x4) : ∃ r, Ev (fun k => partitalaw10_Made.f k l x1 x2 x3 x4) r ∧ r.length ≤ 30 ∧ Short r := by
  unfold partitalaw10_Made.f
  exact made_l0 l hl x1 x2 x3 x4 b2 b3 b4 30 0 [] (by omega) rfl (by simp)
end Go.Proofs.Ytendmmagjjhfnaa.Z
namespace Go.Proofs.Ytendmmagjjhfnaa.Z
open Go.RowKit Go.Proofs.YtendmmagjjhfnaaW.PrintWords Go.Proofs.YtendmmagjjhfnaaW.PrintLast Go.Proofs.Ytendmmagjjhfnaa.M
set_option linter.unusedVariables false
set_option linter.unusedSimpArgs false
set_option maxRecDepth 100000 in
theorem examples_f : partitalaw10_examples.f 12 = some true := by kernel_rfl
theorem examples_ev : Ev (fun k => partitalaw10_examples.f k) true := Ev.of (fun k => partitalaw10_examples.mono k) examples_f
theorem tells_l0 (xs : List (List S38)) (hx : ∀ l ∈ xs, l.length ≤ 140737488351232 ∧ Short l) (hn : xs.length ≤ 1000) : ∀ (d i : Nat), d + i = xs.length → Ev (fun k => partitalaw10_TurnsTells.l0 k true xs (xs.length : Int) (i : Int)) true
  | 0, i, h => Ev.step (fun k => rfl) (Ev.no (by omega) (Ev.now _))
  | d + 1, i, h => by
    have hi : i < xs.length := by omega
    have e : wrap64 ((i : Int) + 1) = ((i + 1 : Nat) : Int) := by rw [w64 (by omega) (by omega)]; omega
    have hrd : rd_L6 xs (i : Int) = xs[i] := by
      unfold rd_L6
      rw [Int.toNat_natCast, List.getD_eq_getElem?_getD, List.getElem?_eq_getElem hi]; rfl
    obtain ⟨hl, hs⟩ := hx xs[i] (List.getElem_mem hi)
    obtain ⟨r, h1, h2, hf1, hf2⟩ := both_ev hl hs
    refine Ev.step (fun k => rfl) (Ev.yes (by omega) (Ev.yes (by omega) (Ev.yes (by omega) ?_)))
    rw [hrd, e]
    refine Ev.bind (check_ev _ hl hs) (Ev.bind (refCheck_ev hl hs) (Ev.bind (unfold_ev h1) (Ev.bind (refUnfold_ev h2) (Ev.bind (passes_ev h1) (Ev.bind (refPasses_ev h2) ?_)))))
    exact Ev.yes rfl (Ev.yes rfl (Ev.bind (ints_same rfl (by show r.1.length ≤ _; omega)) (Ev.yes rfl (Ev.yes rfl (Ev.bind (ints_same rfl (by show r.2.1.length ≤ _; omega)) (Ev.yes rfl (Ev.yes rfl (tells_l0 xs hx hn d (i + 1) (by omega)))))))))
theorem turnsTells {l0 : List S38} (h0 : Short l0) {l1 : List S46} (h1 : Bytes l1) {a b c d : Int} (ha : Byte a) (hb : Byte b) (hc : Byte c) (hd : Byte d) : Ev (fun k => partitalaw10_TurnsTells.f k l0 l1 a b c d) true := by
  have z : Byte 0 := ⟨by decide, by decide⟩
  obtain ⟨x, hx, hx1, hx2⟩ := made_ev l1 h1 a b c d hb hc hd
  obtain ⟨y, hy, hy1, hy2⟩ := made_ev l1 h1 0 0 0 0 z z z
  have m0 : 0 ≤ mn (l0.length : Int) 60 := by unfold mn; split <;> omega
  have m1 : mn (l0.length : Int) 60 ≤ (l0.length : Int) := by unfold mn; split <;> omega
  have m2 : mn (l0.length : Int) 60 ≤ 60 := by unfold mn; split <;> omega
  unfold partitalaw10_TurnsTells.f
  refine Ev.bind examples_ev (Ev.yes rfl (Ev.yes m0 (Ev.yes m1 (Ev.bind hx (Ev.bind hy (Ev.bind (Ev.now _) ?_))))))
  refine tells_l0 _ ?_ (by simp) _ 0 rfl
  intro l hl
  simp only [List.mem_cons, List.not_mem_nil, or_false] at hl
  rcases hl with rfl | rfl | rfl
  · refine ⟨by rw [List.length_take]; omega, fun z hz => h0 z (List.mem_of_mem_take hz)⟩
  · exact ⟨by omega, hx2⟩
  · exact ⟨by omega, hy2⟩
end Go.Proofs.Ytendmmagjjhfnaa.Z
namespace Go.Proofs.Ytendmmagjjhfnaa.R
open Go.RowKit Go.Proofs.YtendmmagjjhfnaaW.PrintWords Go.ChangeShapes Go.WideShapes Go.Deep
section
variable {H : Type} (enc : TypeId × Value → H) (P : Program) (w : World)
def Rds {α : Type} (t : TypeId) (d : Kd α) (Q : α → Prop) : Prop :=
  ∀ (fuel : Nat) (cs : List Value) (y : DataW H × List MemPlace), DataW.trod enc P w 0 (fun _ => true) true fuel t cs = some y → ∃ x, d.K w x cs ∧ Q x
variable {enc P w}
theorem rds_int {t : TypeId} {k : IntKind} (ht : P.underlying t = some (.int k)) : Rds enc P w t (Kd.int k) (fun n => (Lit.int k n).wf = true) := by
  intro fuel cs y h
  obtain ⟨n, hcs, _, hw⟩ := DataW.trod_int ht h
  exact ⟨n, hcs, hw⟩
theorem rds_bool {t : TypeId} (ht : P.underlying t = some .bool) : Rds enc P w t Kd.bool (fun _ => True) := by
  intro fuel cs y h
  obtain ⟨b, hcs, _⟩ := DataW.trod_bool ht h
  exact ⟨b, hcs, trivial⟩
theorem list_of {α : Type} {Φ : Nat → α → Prop} : ∀ n : Nat, (∀ i, i < n → ∃ x, Φ i x) → ∃ xs : List α, xs.length = n ∧ ∀ i x, xs[i]? = some x → Φ i x
  | 0, _ => ⟨[], rfl, fun i x h => by simp at h⟩
  | n + 1, h => by
    obtain ⟨xs, hl, hx⟩ := list_of n (fun i hi => h i (by omega))
    obtain ⟨x, hn⟩ := h n (by omega)
    refine ⟨xs ++ [x], by simp [hl], fun i z hz => ?_⟩
    by_cases hi : i < n
    · rw [List.getElem?_append_left (by omega)] at hz
      exact hx i z hz
    · have hlt := (List.getElem?_eq_some_iff.1 hz).1
      rw [List.length_append, List.length_singleton] at hlt
      obtain rfl : i = n := by omega
      rw [List.getElem?_append_right (by omega), hl, Nat.sub_self] at hz
      simp at hz
      rw [← hz]
      exact hn
theorem rds_slice {α : Type} {t e : TypeId} {d : Kd α} {Q : α → Prop} (ht : P.underlying t = some (.slice e)) (hC : P.cellsOf e = d.sz) (hE : Rds enc P w e d Q) :
    Rds enc P w t (Kd.slice e d) (fun xs => ∀ x ∈ xs, Q x) := by
  intro fuel cs y h
  rcases open_slice ht h with ⟨rfl, _⟩ | ⟨a, len, cap, m, n, D, Pl, rfl, _, hl, hm, hmm, _, hel⟩
  · exact ⟨[], ⟨none, 0, rfl, Nat.le_refl _, rfl, Nat.zero_le _, fun h0 => absurd h0 (Nat.lt_irrefl _)⟩, fun x hx => by cases hx⟩
  · have hm' : len ≤ m := by rw [hmm]; simp; omega
    obtain ⟨xs, hxl, hx⟩ := list_of (Φ := fun i x => (∃ c, c.length = d.sz ∧ d.K w x c ∧ ∀ j u, c[j]? = some u → w.cell? (a.add (i * d.sz + j)) = some u) ∧ Q x) len (fun i hi => by
      obtain ⟨cs', hc, htr⟩ := hel i (by omega)
      obtain ⟨x, hK, hQ⟩ := hE n cs' _ htr
      obtain ⟨_, hcl, hat⟩ := World.cells?_some hc
      rw [hC] at hcl hat
      refine ⟨x, ⟨cs', hcl, hK, fun j u hu => ?_⟩, hQ⟩
      have hj : j < d.sz := by
        have := (List.getElem?_eq_some_iff.1 hu).1
        omega
      have := hat j hj
      rw [hu, Go.Deep.add_add] at this
      exact this)
    subst hxl
    refine ⟨xs, ⟨some a, cap, rfl, hl, rfl, by unfold maxLen at hm; omega, fun _ => ⟨a, rfl, fun j p hp => (hx j p hp).1⟩⟩, fun x hxm => ?_⟩
    obtain ⟨i, hi⟩ := List.getElem?_of_mem hxm
    exact (hx i x hi).2
theorem field_one {fs : Array Field} {n : Nat} {cs : List Value} {xs : List (DataW H × List MemPlace)} (hone : oneCellFields P fs = true) (hx : xs.length = fs.size)
    (hf : ∀ (i : Nat) (f : Field), fs[i]? = some f → DataW.trod enc P w 0 (fun _ => true) true n f.type ((cs.drop f.offset).take (P.cellsOf f.type)) = xs[i]?) (i : Nat) (f : Field) (hi : fs[i]? = some f) :
    ∃ y, DataW.trod enc P w 0 (fun _ => true) true n f.type ((cs.drop i).take 1) = some y := by
  obtain ⟨ho, hk⟩ := hone_of hone i f hi
  have h1 := hf i f hi
  rw [ho, hk] at h1
  have hlt : i < xs.length := by rw [hx]; exact (Array.getElem?_eq_some_iff.1 hi).1
  exact ⟨_, h1.trans (List.getElem?_eq_getElem hlt)⟩
end
end Go.Proofs.Ytendmmagjjhfnaa.R
namespace Go.Proofs.Ytendmmagjjhfnaa.R
open Go.RowKit Go.Proofs.YtendmmagjjhfnaaW.PrintWords Go.ChangeShapes Go.WideShapes Go.Deep Go.Proofs.Ytendmmagjjhfnaa.M
set_option linter.unusedVariables false
def Byte3 (x : S46) : Prop := (Lit.int .u8 x.f0).wf = true ∧ (Lit.int .u8 x.f1).wf = true ∧ (Lit.int .u8 x.f2).wf = true
theorem rds_46 {H : Type} {enc : TypeId × Value → H} {w : World} : Rds enc Try.prog w 46 k46 Byte3 := by
  intro fuel cs y h
  obtain ⟨xs, n, _, _, hlen, hxl, hf⟩ := DataW.trod_struct Try.underlying46 h
  have hC : Try.prog.cellsOf 46 = 3 := by kernel_rfl
  rw [hC] at hlen
  match cs, hlen with
  | [c0, c1, c2], _ =>
    have hfield := field_one (by kernel_rfl) hxl hf
    obtain ⟨y0, t0⟩ := hfield 0 _ rfl
    obtain ⟨y1, t1⟩ := hfield 1 _ rfl
    obtain ⟨y2, t2⟩ := hfield 2 _ rfl
    obtain ⟨x0, k0, q0⟩ := rds_int Try.underlying5 _ _ _ t0
    obtain ⟨x1, k1, q1⟩ := rds_int Try.underlying5 _ _ _ t1
    obtain ⟨x2, k2, q2⟩ := rds_int Try.underlying5 _ _ _ t2
    have e0 : [c0] = [Value.int .u8 x0] := k0
    have e1 : [c1] = [Value.int .u8 x1] := k1
    have e2 : [c2] = [Value.int .u8 x2] := k2
    injection e0 with e0 _
    injection e1 with e1 _
    injection e2 with e2 _
    subst e0 e1 e2
    exact ⟨⟨x0, x1, x2⟩, k46_mk w ⟨x0, x1, x2⟩, q0, q1, q2⟩
end Go.Proofs.Ytendmmagjjhfnaa.R
namespace Go.Proofs.Ytendmmagjjhfnaa.R
open Go.RowKit Go.Proofs.YtendmmagjjhfnaaW.PrintWords Go.ChangeShapes Go.WideShapes Go.Deep Go.Proofs.Ytendmmagjjhfnaa.M
set_option linter.unusedVariables false
def InU8 (x : Int) : Prop := 0 ≤ x ∧ x ≤ 255
theorem inU8_wf {x : Int} (h : (Lit.int .u8 x).wf = true) : InU8 x := by
  simpa [InU8, Lit.wf, IntKind.min, IntKind.max, IntKind.signed, IntKind.bits] using h
theorem okWide_24 {w : World} {r : Reach} {b0 : Nat} {v : Value} (h : Value.okWide Try.prog w r b0 24 v) : ∃ c0 c1 c2 c3, v = .agg #[c0, c1, c2, c3] := by
  simp only [Value.okWide, Try.underlying24] at h
  obtain ⟨cs, h1, h2, _⟩ := h
  have hC : Try.prog.cellsOf 24 = 4 := by kernel_rfl
  rw [hC] at h2
  obtain ⟨l⟩ := cs
  match l, h2 with
  | [c0, c1, c2, c3], _ => exact ⟨c0, c1, c2, c3, h1⟩
theorem rds_24 {H : Type} {enc : TypeId × Value → H} {w : World} {base : Nat} {sp : Nat → Bool} {held : Bool} {fuel : Nat} {c0 c1 c2 c3 : Value} {y : DataW H × List MemPlace}
    (h : DataW.trod enc Try.prog w base sp held fuel 24 [c0, c1, c2, c3] = some y) :
    ∃ x0 x1 x2 x3, c0 = .int .u8 x0 ∧ c1 = .int .u8 x1 ∧ c2 = .int .u8 x2 ∧ c3 = .int .u8 x3 ∧ InU8 x0 ∧ InU8 x1 ∧ InU8 x2 ∧ InU8 x3 := by
  obtain ⟨y0, y1, y2, y3, m, hx, hy0, hy1, hy2, hy3⟩ := trod_array4 Try.underlying24 (by kernel_rfl) h
  obtain ⟨x0, e0, _, w0⟩ := DataW.trod_int Try.underlying5 hy0
  obtain ⟨x1, e1, _, w1⟩ := DataW.trod_int Try.underlying5 hy1
  obtain ⟨x2, e2, _, w2⟩ := DataW.trod_int Try.underlying5 hy2
  obtain ⟨x3, e3, _, w3⟩ := DataW.trod_int Try.underlying5 hy3
  simp at e0 e1 e2 e3
  exact ⟨x0, x1, x2, x3, e0, e1, e2, e3, inU8_wf w0, inU8_wf w1, inU8_wf w2, inU8_wf w3⟩
theorem rds_len {H : Type} {enc : TypeId × Value → H} {P : Program} {w : World} {α : Type} {t e : TypeId} {d : Kd α} {Q : α → Prop} (ht : P.underlying t = some (.slice e)) (hC : P.cellsOf e = d.sz) (hE : Rds enc P w e d Q) :
    Rds enc P w t (Kd.slice e d) (fun xs => xs.length ≤ 9223372036854775807) := by
  intro fuel cs y h
  obtain ⟨xs, hK, hQ⟩ := rds_slice ht hC hE fuel cs y h
  refine ⟨xs, hK, ?_⟩
  obtain ⟨A, c, hcs, hl, _⟩ := hK
  rcases open_slice ht h with ⟨hn, _⟩ | ⟨a, len, cap, m, n, D, Pl, hn, _, hlc, hm, _⟩
  · rw [hcs] at hn
    injection hn with hn _
    injection hn with _ hn _
    omega
  · rw [hcs] at hn
    injection hn with hn _
    injection hn with _ hn hc
    have : maxLen = 9223372036854775807 := by decide
    omega
def Few38 (x : S38) : Prop := x.f2.length ≤ 9223372036854775807
theorem rds_38 {H : Type} {enc : TypeId × Value → H} {w : World} : Rds enc Try.prog w 38 k38 Few38 := by
  intro fuel cs y h
  obtain ⟨xs, n, _, _, hlen, hxl, hf⟩ := DataW.trod_struct Try.underlying38 h
  have hC : Try.prog.cellsOf 38 = 8 := by kernel_rfl
  rw [hC] at hlen
  match cs, hlen with
  | [c0, c1, c2, c3, c4, c5, c6, c7], _ =>
    have hfield := field_one (by kernel_rfl) hxl hf
    obtain ⟨y0, t0⟩ := hfield 0 _ rfl
    obtain ⟨y1, t1⟩ := hfield 1 _ rfl
    obtain ⟨y2, t2⟩ := hfield 2 _ rfl
    obtain ⟨y3, t3⟩ := hfield 3 _ rfl
    obtain ⟨y4, t4⟩ := hfield 4 _ rfl
    obtain ⟨y5, t5⟩ := hfield 5 _ rfl
    obtain ⟨y6, t6⟩ := hfield 6 _ rfl
    obtain ⟨y7, t7⟩ := hfield 7 _ rfl
    obtain ⟨x0, k0, _⟩ := rds_bool Try.underlying4 _ _ _ t0
    obtain ⟨x1, k1, _⟩ := rds_int Try.underlying3 _ _ _ t1
    obtain ⟨x2, ⟨A2, n2, k2, l2, g2⟩, q2⟩ := rds_len (d := Kd.int .i64) Try.underlying31 (by kernel_rfl) (rds_int Try.underlying3) _ _ _ t2
    obtain ⟨x3, k3, _⟩ := rds_bool Try.underlying4 _ _ _ t3
    obtain ⟨x4, k4, _⟩ := rds_bool Try.underlying4 _ _ _ t4
    obtain ⟨x5, k5, _⟩ := rds_bool Try.underlying4 _ _ _ t5
    obtain ⟨x6, k6, _⟩ := rds_bool Try.underlying4 _ _ _ t6
    obtain ⟨x7, k7, _⟩ := rds_int Try.underlying3 _ _ _ t7
    have e0 : [c0] = [Value.bool x0] := k0
    have e1 : [c1] = [Value.int .i64 x1] := k1
    have e2 : [c2] = [Value.slice A2 x2.length n2] := k2
    have e3 : [c3] = [Value.bool x3] := k3
    have e4 : [c4] = [Value.bool x4] := k4
    have e5 : [c5] = [Value.bool x5] := k5
    have e6 : [c6] = [Value.bool x6] := k6
    have e7 : [c7] = [Value.int .i64 x7] := k7
    injection e0 with e0 _
    injection e1 with e1 _
    injection e2 with e2 _
    injection e3 with e3 _
    injection e4 with e4 _
    injection e5 with e5 _
    injection e6 with e6 _
    injection e7 with e7 _
    subst e0 e1 e2 e3 e4 e5 e6 e7
    exact ⟨⟨x0, x1, x2, x3, x4, x5, x6, x7⟩, k38_mk w ⟨x0, x1, x2, x3, x4, x5, x6, x7⟩ l2 g2, q2⟩
end Go.Proofs.Ytendmmagjjhfnaa.R
