/- What the statement SmfJoins alone needs: its printed function, and its pure part (part 1). -/
import Derived.Test.YtdmnknhlibaaoaaC1
import Derived.Test.YtdmnknhlibaaoaaC3
import Derived.Test.YtdmnknhlibaaoaaC5
import Derived.Test.YtdmnknhlibaaoaaC4
namespace Go.Proofs.Ytdmnknhlibaaoaa.M
open Go.RowKit Go.Proofs.YtdmnknhlibaaoaaW.PrintWords Go.Proofs.YtdmnknhlibaaoaaW.PrintLast Go.Proofs.YtdmnknhlibaaoaaW.PrintMore
attribute [local go_sem] max2_int min2_int max_two min_two max_three min_three max_four min_four
set_option linter.unusedVariables false
set_option linter.unusedSimpArgs false
def partitalaw16_SmfJoins.l0 : Nat → Bool → ByteArray → ByteArray → Int → Int → Int → List (List (S28)) → Option (Bool)
  | 0, _, _, _, _, _, _, _ => none
  | k + 1, x3, x5, x7, x8, x109000, x109001, x109002 => if x8 < (x109002.length : Int) then (if 0 ≤ x8 then (if x8 ≤ (wrap64 (x8 + 1)) then (if (wrap64 (x8 + 1)) ≤ (x109002.length : Int) then ((smf_Print.f k x109000 x109001 ((x109002.take ((wrap64 (x8 + 1)) : Int).toNat).drop (x8 : Int).toNat)).bind fun bt117 => (if bt117.2 = 0 then (if (bt117.1.size : Int) < 14 then (none) else (if 0 ≤ 10 then (if 10 ≤ (bt117.1.size : Int) then (if 10 ≤ (x5.size : Int) then (if (bt117.1.extract 0 10).toList = (x5.extract 0 10).toList then (if 10 ≤ 12 then (if 12 ≤ (bt117.1.size : Int) then (if (bt117.1.extract 10 12).toList = ([0, 1] : List UInt8) then (if 12 ≤ 14 then (if 14 ≤ (bt117.1.size : Int) then (if 14 ≤ (x5.size : Int) then (if (bt117.1.extract 12 14).toList = (x5.extract 12 14).toList then (if x7.size + (bt117.1.extract 14 bt117.1.size).size ≤ 9223372036854775807 then (partitalaw16_SmfJoins.l0 k x3 x5 (x7 ++ (bt117.1.extract 14 bt117.1.size)) (wrap64 (x8 + 1)) x109000 x109001 x109002) else (none)) else (some false)) else (none)) else (none)) else (none)) else (none)) else (none)) else (none)) else (none)) else (none)) else (none)) else (none))) else (none))) else (none)) else (none)) else (none)) else (if x3 = true then (some (x7.toList == x5.toList)) else (none))
def partitalaw16_SmfJoins.f (k : Nat) (a0_0 : Int) (a0_1 : Int) (l0_2 : List (List (S28))) : Option (Bool) := (partitalaw16_examples.f k).bind fun t102 => (if t102 = true then ((partitalaw16_File.f k a0_0 a0_1 l0_2).bind fun bt103 => ((smf_Print.f k bt103.1 bt103.2.1 bt103.2.2).bind fun bt109 => (if bt109.2 = 0 then (if (bt109.1.size : Int) < 14 then (some false) else (if 0 ≤ 14 then (if 14 ≤ (bt109.1.size : Int) then (partitalaw16_SmfJoins.l0 k t102 bt109.1 (bt109.1.extract 0 14) 0 bt103.1 bt103.2.1 bt103.2.2) else (none)) else (none))) else (none)))) else (some false))
theorem partitalaw16_SmfJoins.mono_l : ∀ k, (∀ y0 y1 y2 y3 y4 y5 y6, LeO (partitalaw16_SmfJoins.l0 k y0 y1 y2 y3 y4 y5 y6) (partitalaw16_SmfJoins.l0 (k + 1) y0 y1 y2 y3 y4 y5 y6))
  | 0 => fun _ _ _ _ _ _ _ r h => by simp [partitalaw16_SmfJoins.l0] at h
  | k + 1 => by
    have ih0 := partitalaw16_SmfJoins.mono_l k
    · intro y0 y1 y2 y3 y4 y5 y6
      unfold partitalaw16_SmfJoins.l0
      repeat' first
      | (with_reducible exact ih0 _ _ _ _ _ _ _)
      | (with_reducible exact partitalaw16_File.mono _ _ _ _)
      | (with_reducible exact partitalaw16_examples.mono _)
      | (with_reducible exact smf_Print.mono _ _ _ _)
      | (with_reducible exact LeO.refl _)
      | (with_reducible exact LeO.none _)
      | (with_reducible refine LeO.ite ?_ ?_)
      | (with_reducible refine LeO.bind ?_ (fun _ => ?_))
      | exact ih0 _ _ _ _ _ _ _
      | exact partitalaw16_File.mono _ _ _ _
      | exact partitalaw16_examples.mono _
      | exact smf_Print.mono _ _ _ _
      | exact LeO.none _
      | refine LeO.ite ?_ ?_
      | refine LeO.bind ?_ (fun _ => ?_)
theorem partitalaw16_SmfJoins.mono : ∀ a0 a1 a2 k, LeO (partitalaw16_SmfJoins.f k a0 a1 a2) (partitalaw16_SmfJoins.f (k + 1) a0 a1 a2) := by
  intro a0 a1 a2 k
  have ih0 := partitalaw16_SmfJoins.mono_l k
  unfold partitalaw16_SmfJoins.f
  repeat' first
      | (with_reducible exact ih0 _ _ _ _ _ _ _)
      | (with_reducible exact partitalaw16_File.mono _ _ _ _)
      | (with_reducible exact partitalaw16_examples.mono _)
      | (with_reducible exact smf_Print.mono _ _ _ _)
      | (with_reducible exact LeO.refl _)
      | (with_reducible exact LeO.none _)
      | (with_reducible refine LeO.ite ?_ ?_)
      | (with_reducible refine LeO.bind ?_ (fun _ => ?_))
      | exact ih0 _ _ _ _ _ _ _
      | exact partitalaw16_File.mono _ _ _ _
      | exact partitalaw16_examples.mono _
      | exact smf_Print.mono _ _ _ _
      | exact LeO.none _
      | refine LeO.ite ?_ ?_
      | refine LeO.bind ?_ (fun _ => ?_)
def partitalaw16_SmfJoins.T12 : Bool × List (List Nat × List Nat) := (true, [([], []), ([0], [0]), ([], []), ([2], [2]), ([], []), ([4], [4]), ([], []), ([], []), ([7], [7]), ([5, 6, 8], [5, 6, 8]), ([1, 3, 9], [1, 3, 9]), ([], []), ([11, 10, 0, 1, 2, 3, 4, 5, 6, 7, 8, 9, 10, 11], [10, 11])])
def partitalaw16_SmfJoins.B12 : List Nat := [0, 1, 0, 4, 0, 16, 0, 0, 128, 496, 1023, 0, 4095]
theorem partitalaw16_SmfJoins.tab12 : rtab .any (opsOf Try.f10 12) = partitalaw16_SmfJoins.T12 := by kernel_rfl
theorem partitalaw16_SmfJoins.bits12 : waitsOk partitalaw16_SmfJoins.T12.2 partitalaw16_SmfJoins.B12 = true := by kernel_rfl
def partitalaw16_SmfJoins.T14 : Bool × List (List Nat × List Nat) := (true, [([], []), ([0], [0]), ([1], [1]), ([2], [2]), ([3, 2], [2, 3]), ([4, 2], [2, 4]), ([2, 5], [2, 5]), ([6, 2], [6]), ([7], [7]), ([8, 7], [7, 8]), ([7], [7]), ([10, 7], [7, 10]), ([9, 11, 7], [7, 9, 11]), ([7, 12], [7, 12]), ([13, 7], [13]), ([14], [14]), ([15, 14], [14, 15]), ([16, 14], [14, 16]), ([14, 17], [14, 17]), ([18, 14], [18]), ([19], [19]), ([20, 19], [19, 20]), ([19], [19]), ([22, 19], [19, 22]), ([21, 23, 19], [19, 21, 23]), ([19, 24], [19, 24])])
def partitalaw16_SmfJoins.B14 : List Nat := [0, 1, 3, 7, 15, 31, 63, 127, 255, 511, 255, 1279, 4095, 8191, 16383, 32767, 65535, 131071, 262143, 524287, 1048575, 2097151, 1048575, 5242879, 16777215, 33554431]
theorem partitalaw16_SmfJoins.tab14 : rtab .any (opsOf Try.f10 14) = partitalaw16_SmfJoins.T14 := by kernel_rfl
theorem partitalaw16_SmfJoins.bits14 : waitsOk partitalaw16_SmfJoins.T14.2 partitalaw16_SmfJoins.B14 = true := by kernel_rfl
set_option maxHeartbeats 8000000 in
set_option maxRecDepth 100000 in
theorem partitalaw16_SmfJoins.calls (k : Nat) (a0_0 : Int) (a0_1 : Int) (A0_2 : Option Addr) (c0_2 : Nat) (l0_2 : List (List (S28))) (r : Bool) (w : World) (hr0_2 : Kd.C (Kd.slice 28 k28) w A0_2 l0_2.length l0_2) (hc0_2 : l0_2.length ≤ c0_2) (h : partitalaw16_SmfJoins.f k a0_0 a0_1 l0_2 = some r) :
    Calls Try.prog 10 #[.agg #[.int .i64 a0_0, .int .i64 a0_1, .slice A0_2 l0_2.length c0_2]] w fun e w' => e = .returned (.bool r) ∧ Below w.heap.size w w' := by
  have hu24 := Try.underlying24
  have HR0_2 := Aside0.mk hr0_2
  have HC0_2 := Aside0.mk hc0_2
  clear hr0_2 hc0_2
  have HB := Aside0.mk (Below.refl w.heap.size w)
  have H : ((partitalaw16_examples.f k).bind fun t102 => (if t102 = true then ((partitalaw16_File.f k a0_0 a0_1 l0_2).bind fun bt103 => ((smf_Print.f k bt103.1 bt103.2.1 bt103.2.2).bind fun bt109 => (if bt109.2 = 0 then (if (bt109.1.size : Int) < 14 then (some false) else (if 0 ≤ 14 then (if 14 ≤ (bt109.1.size : Int) then (partitalaw16_SmfJoins.l0 k t102 bt109.1 (bt109.1.extract 0 14) 0 bt103.1 bt103.2.1 bt103.2.2) else (none)) else (none))) else (none)))) else (some false))) = some r := h
  clear h
  replace H := Option.bind_eq_some_iff.mp H
  obtain ⟨t102, A20, H⟩ := H
  replace H : (if t102 = true then ((partitalaw16_File.f k a0_0 a0_1 l0_2).bind fun bt103 => ((smf_Print.f k bt103.1 bt103.2.1 bt103.2.2).bind fun bt109 => (if bt109.2 = 0 then (if (bt109.1.size : Int) < 14 then (some false) else (if 0 ≤ 14 then (if 14 ≤ (bt109.1.size : Int) then (partitalaw16_SmfJoins.l0 k t102 bt109.1 (bt109.1.extract 0 14) 0 bt103.1 bt103.2.1 bt103.2.2) else (none)) else (none))) else (none)))) else (some false)) = some r := H
  have A2 := Aside0.mk A20
  clear A20
  by_cases c3 : t102 = true
  rotate_left
  · replace c3 := Bool.eq_false_iff.mpr c3
    subst c3
    have H1 : (some false) = some r := by rw [if_neg (show ¬ (false = true) by decide)] at H; exact H
    clear H
    have H := H1
    clear H1
    obtain rfl := Option.some.inj H
    go_enter Try.func10, Try.ntmps10
    go_wp2_with (first | ((with_reducible refine gate_dst (N := 1) rfl ?_); (try (refine gate_guard (by rfl) ?_; dsimp only)); refine box_event ?hg (N := 1) ?hd (cs := #[.int .i64 a0_0, .int .i64 a0_1, .slice A0_2 l0_2.length c0_2]) (t := 24) ?hr ?_; (case hd => rfl); (case hg => rfl); (case hr => first | (go_simp; done) | (go_simp; rfl)); intro gb101 hg w79 hbox hb; have BK101 := Aside0.mk (hbox); have GW101 := Aside0.mk ((by rw [hg]; exact (below_size (qB HB.out)) : w.heap.size ≤ gb101)); have GE101 := Aside0.mk ((by rw [hg]; exact (below_size (qB HB.out)) : w.heap.size ≤ gb101)); replace HB := Aside0.mk (below_step (qB HB.out) hb); clear hb hbox hg) | ((with_reducible refine gate_callee (f := 11) rfl ?_); refine goesL_ (some 12) rfl rfl Try.func11 (by kernel_rfl) rfl #[] rfl (by (try simp only [List.map_toArray, List.map_cons, List.map_nil]); first | done | rfl | (simp only [List.length_drop, List.length_take]; rfl)) ?_; (with_reducible refine (partitalaw16_examples.calls k  false _ A2.out).mono ?_); rintro e w80 ⟨rfl, hb⟩; refine ⟨_, rfl, ?_⟩; replace BK101 := Aside0.mk (blk_below (bq BK101.out) hb); replace HB := Aside0.mk (below_step (qS1 GE101 HB.out) hb); (try clear hb); (try clear hb2); (try clear hk); (try clear hi)))
    go_ret
    exact ⟨by first | rfl | (simp [errW_none, errW_some] <;> rfl) | (simp [*, errW_none, errW_some] <;> rfl), qS1 GE101 HB.out⟩
  subst c3
  have H1 : ((partitalaw16_File.f k a0_0 a0_1 l0_2).bind fun bt103 => ((smf_Print.f k bt103.1 bt103.2.1 bt103.2.2).bind fun bt109 => (if bt109.2 = 0 then (if (bt109.1.size : Int) < 14 then (some false) else (if 0 ≤ 14 then (if 14 ≤ (bt109.1.size : Int) then (partitalaw16_SmfJoins.l0 k true bt109.1 (bt109.1.extract 0 14) 0 bt103.1 bt103.2.1 bt103.2.2) else (none)) else (none))) else (none)))) = some r := by rw [if_pos rfl] at H; exact H
  clear H
  have H := H1
  clear H1
  replace H := Option.bind_eq_some_iff.mp H
  obtain ⟨⟨t103, t104, t105⟩, A40, H⟩ := H
  replace H : ((smf_Print.f k t103 t104 t105).bind fun bt109 => (if bt109.2 = 0 then (if (bt109.1.size : Int) < 14 then (some false) else (if 0 ≤ 14 then (if 14 ≤ (bt109.1.size : Int) then (partitalaw16_SmfJoins.l0 k true bt109.1 (bt109.1.extract 0 14) 0 t103 t104 t105) else (none)) else (none))) else (none))) = some r := H
  have A4 := Aside0.mk A40
  clear A40
  replace H := Option.bind_eq_some_iff.mp H
  obtain ⟨⟨t109, t110⟩, A50, H⟩ := H
  replace H : (if t110 = 0 then (if (t109.size : Int) < 14 then (some false) else (if 0 ≤ 14 then (if 14 ≤ (t109.size : Int) then (partitalaw16_SmfJoins.l0 k true t109 (t109.extract 0 14) 0 t103 t104 t105) else (none)) else (none))) else (none)) = some r := H
  have A5 := Aside0.mk A50
  clear A50
  by_cases c6 : t110 = 0
  rotate_left
  · rw [if_neg c6] at H
    exact absurd H (by simp)
  rw [if_pos c6] at H
  have c6b0 : (t110 == 0) = true := beq_iff_eq.mpr c6
  have c6b1 : (t110 != 0) = false := bne_eq_false_iff_eq.mpr c6
  clear c6
  by_cases c7 : (t109.size : Int) < 14
  · rw [if_pos c7] at H
    have c7b0 : decide ((t109.size : Int) < 14) = true := decide_eq_true c7
    have c7b1 : decide (t109.size < 14) = true := decide_eq_true (by omega)
    clear c7
    obtain rfl := Option.some.inj H
    go_enter Try.func10, Try.ntmps10
    go_wp2_with (first | ((with_reducible refine gate_dst (N := 1) rfl ?_); (try (refine gate_guard (by rfl) ?_; dsimp only)); refine box_event ?hg (N := 1) ?hd (cs := #[.int .i64 a0_0, .int .i64 a0_1, .slice A0_2 l0_2.length c0_2]) (t := 24) ?hr ?_; (case hd => rfl); (case hg => rfl); (case hr => first | (go_simp; done) | (go_simp; rfl)); intro gb101 hg w8 hbox hb; have BK101 := Aside0.mk (hbox); have GW101 := Aside0.mk ((by rw [hg]; exact (below_size (qB HB.out)) : w.heap.size ≤ gb101)); have GE101 := Aside0.mk ((by rw [hg]; exact (below_size (qB HB.out)) : w.heap.size ≤ gb101)); replace HB := Aside0.mk (below_step (qB HB.out) hb); clear hb hbox hg) | ((with_reducible refine gate_callee (f := 11) rfl ?_); refine goesL_ (some 12) rfl rfl Try.func11 (by kernel_rfl) rfl #[] rfl (by (try simp only [List.map_toArray, List.map_cons, List.map_nil]); first | done | rfl | (simp only [List.length_drop, List.length_take]; rfl)) ?_; (with_reducible refine (partitalaw16_examples.calls k  true _ A2.out).mono ?_); rintro e w9 ⟨rfl, hb⟩; refine ⟨_, rfl, ?_⟩; replace BK101 := Aside0.mk (blk_below (bq BK101.out) hb); replace HB := Aside0.mk (below_step (qS1 GE101 HB.out) hb); (try clear hb); (try clear hb2); (try clear hk); (try clear hi); obtain ⟨hcz10_0, hcz10_1, hcz10_2, hfz10_0, hfz10_1, hfz10_2⟩ := blk3 BK101.out) | ((with_reducible refine gate_callee (f := 12) rfl ?_); refine goesL_ (some 16) rfl rfl Try.func12 (by kernel_rfl) rfl #[.agg #[.int .i64 a0_0, .int .i64 a0_1, .slice A0_2 l0_2.length c0_2]] rfl (by (try simp only [List.map_toArray, List.map_cons, List.map_nil]); first | done | rfl | (simp only [List.length_drop, List.length_take]; rfl)) ?_; (with_reducible refine (partitalaw16_File.calls k a0_0 a0_1 _ _ l0_2 t103 t104 t105 _ ?side1 ?side2 A4.out).mono ?_); (case side1 => repeat (first | exact (Kd.C_below HR0_2.out HB.out) | (with_reducible refine Kd.C_alloc ?_ _) | (with_reducible refine Kd.C_drewN ?_ _) | (with_reducible refine Kd.C_drew ?_))); (case side2 => exact HC0_2.out); rintro e w11 ⟨v106, rfl, ho0, hb⟩; refine ⟨_, rfl, ?_⟩; have HO107 := Aside0.mk (Kd.N_lower (Kd.N_mono (ok' := fun k_ => k_ ≠ gb101) ho0 (fun k_ hk_ => (Kd.freshB (bq BK101.out) k_ hk_))) (below_size (qS1 GE101 HB.out))); replace BK101 := Aside0.mk (blk_below (bq BK101.out) hb); replace HB := Aside0.mk (below_step (qS1 GE101 HB.out) hb); (try clear hb); (try clear hb2); (try clear hk); (try clear hi); (try clear ho0)) | ((with_reducible refine gate_dst (N := 4) rfl ?_); (try (refine gate_guard (by rfl) ?_; dsimp only)); refine box_event ?hg (N := 4) ?hd (cs := #[.int .i64 0, .int .i64 0, .slice none 0 0]) (t := 24) ?hr ?_; (case hd => rfl); (case hg => rfl); (case hr => first | (go_simp; done) | (go_simp; rfl)); intro gb108 hg w12 hbox hb; replace HO107 := Aside0.mk (Kd.N_below (Kd.N_elderB (qN HO107.out) gb108 (Nat.le_of_eq hg.symm)) hb); have BK108 := Aside0.mk (hbox); have GW108 := Aside0.mk ((by rw [hg]; exact (below_size (qS1 GE101 HB.out)) : w.heap.size ≤ gb108)); have GE108 := Aside0.mk ((by rw [hg]; exact (below_size (qS1 GE101 HB.out)) : w.heap.size ≤ gb108)); replace HB := Aside0.mk (below_step (qS1 GE101 HB.out) hb); have NB101_108 := Aside0.mk ((by rw [hg]; exact Nat.ne_of_lt (blk_lt (bq BK101.out)) : gb101 ≠ gb108)); have NB108_101 := Aside0.mk ((by rw [hg]; exact Nat.ne_of_gt (blk_lt (bq BK101.out)) : gb108 ≠ gb101)); replace BK101 := Aside0.mk (blk_below (bq BK101.out) hb); clear hb hbox hg; have hnb13 := NB108_101.out; have hnc13 := NB101_108.out; obtain ⟨hcz14_0, hcz14_1, hcz14_2, hfz14_0, hfz14_1, hfz14_2⟩ := blk3 BK108.out; obtain ⟨Ao15, co15, eo15⟩ := Kd.N_slice HO107.out; subst eo15) | ((with_reducible refine gate_callee (f := 15) rfl ?_); refine goesL_ (some 19) rfl rfl Try.func15 (by kernel_rfl) rfl #[.agg #[.int .i64 t103, .int .i64 t104, .slice Ao15 t105.length co15]] rfl (by (try simp only [List.map_toArray, List.map_cons, List.map_nil]); first | done | rfl | (simp only [List.length_drop, List.length_take]; rfl)) ?_; (with_reducible refine (smf_Print.calls k t103 t104 _ _ t105 t109 t110 _ ?side1 ?side2 A5.out).mono ?_); (case side1 => refine (Kd.N_reads' (e := 30) (base := w.heap.size) (ok := fun k_ => (k_ ≠ gb101 ∧ k_ ≠ gb108)) (n := t105.length) (c := co15) ?_).2.2; exact (by (with_reducible repeat (first | apply Kd.N_alloc | apply Kd.N_drewN | apply Kd.N_drew)); exact (Kd.N_mono (Kd.N_far (p := ⟨gb108, 2, none⟩) (Kd.N_far (p := ⟨gb108, 1, none⟩) (Kd.N_far (p := ⟨gb108, 0, none⟩) (Kd.N_mono HO107.out (fun k_ hk => (⟨hk, hk.2⟩ : _ ∧ k_ ≠ gb108))) (fun _ hk => hk.2) (.int .i64 t103)) (fun _ hk => hk.2) (.int .i64 t104)) (fun _ hk => hk.2) (.slice Ao15 t105.length co15)) (fun _ h_ => h_.1)))); (case side2 => exact (Kd.N_reads' HO107.out).2.1); rintro e w16 ⟨rfl, hb⟩; refine ⟨_, rfl, ?_⟩; replace HO107 := Aside0.mk (Kd.N_below (by (with_reducible repeat (first | apply Kd.N_alloc | apply Kd.N_drewN | apply Kd.N_drew)); exact (Kd.N_mono (Kd.N_far (p := ⟨gb108, 2, none⟩) (Kd.N_far (p := ⟨gb108, 1, none⟩) (Kd.N_far (p := ⟨gb108, 0, none⟩) (Kd.N_mono HO107.out (fun k_ hk => (⟨hk, hk.2⟩ : _ ∧ k_ ≠ gb108))) (fun _ hk => hk.2) (.int .i64 t103)) (fun _ hk => hk.2) (.int .i64 t104)) (fun _ hk => hk.2) (.slice Ao15 t105.length co15)) (fun _ h_ => h_.1))) hb); replace BK101 := Aside0.mk (blk_below (g := gb101) (o := .cells #[.int .i64 a0_0, .int .i64 a0_1, .slice A0_2 l0_2.length c0_2] 24 (0, 0)) (by refine bq ?_; refine blk_far ?_ NB101_108.out _; refine bq ?_; refine blk_far ?_ NB101_108.out _; refine bq ?_; refine blk_far ?_ NB101_108.out _; exact bq BK101.out) hb); replace BK108 := Aside0.mk (blk_below (g := gb108) (o := .cells #[.int .i64 t103, .int .i64 t104, .slice Ao15 t105.length co15] 24 (0, 0)) (by refine bq ?_; refine blk_put (cs := #[.int .i64 t103, .int .i64 t104, .slice none 0 0]) ?_ 2 _ rfl; refine bq ?_; refine blk_put (cs := #[.int .i64 t103, .int .i64 0, .slice none 0 0]) ?_ 1 _ rfl; refine bq ?_; refine blk_put (cs := #[.int .i64 0, .int .i64 0, .slice none 0 0]) ?_ 0 _ rfl; exact bq BK108.out) hb); replace HB := Aside0.mk (below_step (qS2 GE101 GE108 HB.out) hb); (try clear hb); (try clear hb2); (try clear hk); (try clear hi)))
    go_ret
    exact ⟨by first | rfl | (simp [errW_none, errW_some] <;> rfl) | (simp [*, errW_none, errW_some] <;> rfl), qS2 GE101 GE108 HB.out⟩
  rw [if_neg c7] at H
  have c7b0 : decide ((t109.size : Int) < 14) = false := decide_eq_false c7
  have c7b1 : decide (t109.size < 14) = false := decide_eq_false (by omega)
  clear c7
  by_cases c17 : 0 ≤ 14
  rotate_left
  · rw [if_neg c17] at H
    exact absurd H (by simp)
  rw [if_pos c17] at H
  have c17b0 := eq_true c17
  have c17b1 : decide (0 ≤ 14) = true := decide_eq_true c17
  clear c17
  by_cases c18 : 14 ≤ (t109.size : Int)
  rotate_left
  · rw [if_neg c18] at H
    exact absurd H (by simp)
  rw [if_pos c18] at H
  have c18b0 := eq_true c18
  have c18b1 : decide (14 ≤ (t109.size : Int)) = true := decide_eq_true c18
  clear c18
  have H' := Aside0.mk H
  clear H
  go_enter Try.func10, Try.ntmps10
  go_wp2_with (first | ((with_reducible refine gate_dst (N := 1) rfl ?_); (try (refine gate_guard (by rfl) ?_; dsimp only)); refine box_event ?hg (N := 1) ?hd (cs := #[.int .i64 a0_0, .int .i64 a0_1, .slice A0_2 l0_2.length c0_2]) (t := 24) ?hr ?_; (case hd => rfl); (case hg => rfl); (case hr => first | (go_simp; done) | (go_simp; rfl)); intro gb101 hg w19 hbox hb; have BK101 := Aside0.mk (hbox); have GW101 := Aside0.mk ((by rw [hg]; exact (below_size (qB HB.out)) : w.heap.size ≤ gb101)); have GE101 := Aside0.mk ((by rw [hg]; exact (below_size (qB HB.out)) : w.heap.size ≤ gb101)); replace HB := Aside0.mk (below_step (qB HB.out) hb); clear hb hbox hg) | ((with_reducible refine gate_callee (f := 11) rfl ?_); refine goesL_ (some 12) rfl rfl Try.func11 (by kernel_rfl) rfl #[] rfl (by (try simp only [List.map_toArray, List.map_cons, List.map_nil]); first | done | rfl | (simp only [List.length_drop, List.length_take]; rfl)) ?_; (with_reducible refine (partitalaw16_examples.calls k  true _ A2.out).mono ?_); rintro e w20 ⟨rfl, hb⟩; refine ⟨_, rfl, ?_⟩; replace BK101 := Aside0.mk (blk_below (bq BK101.out) hb); replace HB := Aside0.mk (below_step (qS1 GE101 HB.out) hb); (try clear hb); (try clear hb2); (try clear hk); (try clear hi); obtain ⟨hcz21_0, hcz21_1, hcz21_2, hfz21_0, hfz21_1, hfz21_2⟩ := blk3 BK101.out) | ((with_reducible refine gate_callee (f := 12) rfl ?_); refine goesL_ (some 16) rfl rfl Try.func12 (by kernel_rfl) rfl #[.agg #[.int .i64 a0_0, .int .i64 a0_1, .slice A0_2 l0_2.length c0_2]] rfl (by (try simp only [List.map_toArray, List.map_cons, List.map_nil]); first | done | rfl | (simp only [List.length_drop, List.length_take]; rfl)) ?_; (with_reducible refine (partitalaw16_File.calls k a0_0 a0_1 _ _ l0_2 t103 t104 t105 _ ?side1 ?side2 A4.out).mono ?_); (case side1 => repeat (first | exact (Kd.C_below HR0_2.out HB.out) | (with_reducible refine Kd.C_alloc ?_ _) | (with_reducible refine Kd.C_drewN ?_ _) | (with_reducible refine Kd.C_drew ?_))); (case side2 => exact HC0_2.out); rintro e w22 ⟨v106, rfl, ho0, hb⟩; refine ⟨_, rfl, ?_⟩; have HO107 := Aside0.mk (Kd.N_lower (Kd.N_mono (ok' := fun k_ => k_ ≠ gb101) ho0 (fun k_ hk_ => (Kd.freshB (bq BK101.out) k_ hk_))) (below_size (qS1 GE101 HB.out))); replace BK101 := Aside0.mk (blk_below (bq BK101.out) hb); replace HB := Aside0.mk (below_step (qS1 GE101 HB.out) hb); (try clear hb); (try clear hb2); (try clear hk); (try clear hi); (try clear ho0)) | ((with_reducible refine gate_dst (N := 4) rfl ?_); (try (refine gate_guard (by rfl) ?_; dsimp only)); refine box_event ?hg (N := 4) ?hd (cs := #[.int .i64 0, .int .i64 0, .slice none 0 0]) (t := 24) ?hr ?_; (case hd => rfl); (case hg => rfl); (case hr => first | (go_simp; done) | (go_simp; rfl)); intro gb108 hg w23 hbox hb; replace HO107 := Aside0.mk (Kd.N_below (Kd.N_elderB (qN HO107.out) gb108 (Nat.le_of_eq hg.symm)) hb); have BK108 := Aside0.mk (hbox); have GW108 := Aside0.mk ((by rw [hg]; exact (below_size (qS1 GE101 HB.out)) : w.heap.size ≤ gb108)); have GE108 := Aside0.mk ((by rw [hg]; exact (below_size (qS1 GE101 HB.out)) : w.heap.size ≤ gb108)); replace HB := Aside0.mk (below_step (qS1 GE101 HB.out) hb); have NB101_108 := Aside0.mk ((by rw [hg]; exact Nat.ne_of_lt (blk_lt (bq BK101.out)) : gb101 ≠ gb108)); have NB108_101 := Aside0.mk ((by rw [hg]; exact Nat.ne_of_gt (blk_lt (bq BK101.out)) : gb108 ≠ gb101)); replace BK101 := Aside0.mk (blk_below (bq BK101.out) hb); clear hb hbox hg; have hnb24 := NB108_101.out; have hnc24 := NB101_108.out; obtain ⟨hcz25_0, hcz25_1, hcz25_2, hfz25_0, hfz25_1, hfz25_2⟩ := blk3 BK108.out; obtain ⟨Ao26, co26, eo26⟩ := Kd.N_slice HO107.out; subst eo26) | ((with_reducible refine gate_callee (f := 15) rfl ?_); refine goesL_ (some 19) rfl rfl Try.func15 (by kernel_rfl) rfl #[.agg #[.int .i64 t103, .int .i64 t104, .slice Ao26 t105.length co26]] rfl (by (try simp only [List.map_toArray, List.map_cons, List.map_nil]); first | done | rfl | (simp only [List.length_drop, List.length_take]; rfl)) ?_; (with_reducible refine (smf_Print.calls k t103 t104 _ _ t105 t109 t110 _ ?side1 ?side2 A5.out).mono ?_); (case side1 => refine (Kd.N_reads' (e := 30) (base := w.heap.size) (ok := fun k_ => (k_ ≠ gb101 ∧ k_ ≠ gb108)) (n := t105.length) (c := co26) ?_).2.2; exact (by (with_reducible repeat (first | apply Kd.N_alloc | apply Kd.N_drewN | apply Kd.N_drew)); exact (Kd.N_mono (Kd.N_far (p := ⟨gb108, 2, none⟩) (Kd.N_far (p := ⟨gb108, 1, none⟩) (Kd.N_far (p := ⟨gb108, 0, none⟩) (Kd.N_mono HO107.out (fun k_ hk => (⟨hk, hk.2⟩ : _ ∧ k_ ≠ gb108))) (fun _ hk => hk.2) (.int .i64 t103)) (fun _ hk => hk.2) (.int .i64 t104)) (fun _ hk => hk.2) (.slice Ao26 t105.length co26)) (fun _ h_ => h_.1)))); (case side2 => exact (Kd.N_reads' HO107.out).2.1); rintro e w27 ⟨rfl, hb⟩; refine ⟨_, rfl, ?_⟩; replace HO107 := Aside0.mk (Kd.N_below (by (with_reducible repeat (first | apply Kd.N_alloc | apply Kd.N_drewN | apply Kd.N_drew)); exact (Kd.N_mono (Kd.N_far (p := ⟨gb108, 2, none⟩) (Kd.N_far (p := ⟨gb108, 1, none⟩) (Kd.N_far (p := ⟨gb108, 0, none⟩) (Kd.N_mono HO107.out (fun k_ hk => (⟨hk, hk.2⟩ : _ ∧ k_ ≠ gb108))) (fun _ hk => hk.2) (.int .i64 t103)) (fun _ hk => hk.2) (.int .i64 t104)) (fun _ hk => hk.2) (.slice Ao26 t105.length co26)) (fun _ h_ => h_.1))) hb); replace BK101 := Aside0.mk (blk_below (g := gb101) (o := .cells #[.int .i64 a0_0, .int .i64 a0_1, .slice A0_2 l0_2.length c0_2] 24 (0, 0)) (by refine bq ?_; refine blk_far ?_ NB101_108.out _; refine bq ?_; refine blk_far ?_ NB101_108.out _; refine bq ?_; refine blk_far ?_ NB101_108.out _; exact bq BK101.out) hb); replace BK108 := Aside0.mk (blk_below (g := gb108) (o := .cells #[.int .i64 t103, .int .i64 t104, .slice Ao26 t105.length co26] 24 (0, 0)) (by refine bq ?_; refine blk_put (cs := #[.int .i64 t103, .int .i64 t104, .slice none 0 0]) ?_ 2 _ rfl; refine bq ?_; refine blk_put (cs := #[.int .i64 t103, .int .i64 0, .slice none 0 0]) ?_ 1 _ rfl; refine bq ?_; refine blk_put (cs := #[.int .i64 0, .int .i64 0, .slice none 0 0]) ?_ 0 _ rfl; exact bq BK108.out) hb); replace HB := Aside0.mk (below_step (qS2 GE101 GE108 HB.out) hb); (try clear hb); (try clear hb2); (try clear hk); (try clear hi)))
  go_loopg [7, 8] k (fun kq v7 v8 w' => ∃ (x7_1 : ByteArray) (x8_1 : Int), v7 = .string x7_1 ∧ v8 = .int .i64 x8_1 ∧ Aside0 (partitalaw16_SmfJoins.l0 kq true t109 x7_1 x8_1 t103 t104 t105 = some r) ∧ Aside0 (kq ≤ k) ∧ Aside0 (Kd.N (Kd.slice 28 k28) 30 w' w.heap.size (fun k_ => k_ ≠ gb101 ∧ k_ ≠ gb108) (.slice Ao26 t105.length co26) t105) ∧ Aside0 (w'.heap[gb101]? = some (.cells #[.int .i64 a0_0, .int .i64 a0_1, (.slice A0_2 l0_2.length c0_2)] 24 (0, 0))) ∧ Aside0 (w'.heap[gb108]? = some (.cells #[.int .i64 t103, .int .i64 t104, (.slice Ao26 t105.length co26)] 24 (0, 0))) ∧ Aside0 (Below w.heap.size w w'))
  case atStart => exact ⟨(t109.extract 0 14), (0), (by first | rfl | (simp; done) | (simp [*]; done)), (by first | rfl | (simp; done) | (simp [*]; done)), H', ⟨Nat.le_refl _⟩, ⟨qN HO107.out⟩, ⟨bq BK101.out⟩, ⟨bq BK108.out⟩, ⟨qS2 GE101 GE108 HB.out⟩⟩
  case round =>
    clear H'
    try clear c1
    try clear c2
    try clear p2
    try clear c3
    try clear c6
    try clear c6b0
    try clear c6b1
    try clear c7
    try clear c7b0
    try clear c7b1
    try clear c10
    try clear c11
    try clear c12
    try clear c13
    try clear c15
    try clear c17
    try clear c17b0
    try clear c17b1
    try clear c18
    try clear c18b0
    try clear c18b1
    try clear c24
    try clear hcz10_0
    try clear hcz10_1
    try clear hcz10_2
    try clear hcz14_0
    try clear hcz14_1
    try clear hcz14_2
    try clear hcz21_0
    try clear hcz21_1
    try clear hcz21_2
    try clear hcz25_0
    try clear hcz25_1
    try clear hcz25_2
    try clear hfz10_0
    try clear hfz10_1
    try clear hfz10_2
    try clear hfz14_0
    try clear hfz14_1
    try clear hfz14_2
    try clear hfz21_0
    try clear hfz21_1
    try clear hfz21_2
    try clear hfz25_0
    try clear hfz25_1
    try clear hfz25_2
    obtain ⟨x7_1, x8_1, rfl, rfl, HA, HK1, HO_109002, BK101, BK108, HB⟩ := hrel
    cases gk with
    | zero => exact absurd HA.out (by simp [partitalaw16_SmfJoins.l0])
    | succ k1 =>
      have H := HA.out
      clear HA
      simp only [partitalaw16_SmfJoins.l0] at H
      by_cases c28 : x8_1 < (t105.length : Int)
      rotate_left
      · rw [if_neg c28] at H
        have c28b0 : decide (x8_1 < (t105.length : Int)) = false := decide_eq_false c28
        clear c28
        by_cases c76 : true = true
        rotate_left
        · exact absurd rfl c76
        clear c76
        have H1 : (some (x7_1.toList == t109.toList)) = some r := by first | (rw [if_pos rfl] at H; exact H) | (rw [if_pos trivial] at H; exact H)
        clear H
        have H := H1
        clear H1
        obtain rfl := Option.some.inj H
        have hnb77 := NB108_101.out
        have hnc77 := NB101_108.out
        obtain ⟨hcz78_0, hcz78_1, hcz78_2, hfz78_0, hfz78_1, hfz78_2⟩ := blk3 BK108.out
        go_wp2
        go_ret
        exact ⟨by first | rfl | (simp [errW_none, errW_some] <;> rfl) | (simp [*, errW_none, errW_some] <;> rfl), qS2 GE101 GE108 HB.out⟩
      rw [if_pos c28] at H
      have c28b0 : decide (x8_1 < (t105.length : Int)) = true := decide_eq_true c28
      clear c28
      by_cases c29 : 0 ≤ x8_1
      rotate_left
      · rw [if_neg c29] at H
        exact absurd H (by simp)
      rw [if_pos c29] at H
      have c29b0 := eq_true c29
      have c29b1 : decide (0 ≤ x8_1) = true := decide_eq_true c29
      clear c29
      by_cases c30 : x8_1 ≤ (wrap64 (x8_1 + 1))
      rotate_left
      · rw [if_neg c30] at H
        exact absurd H (by simp)
      rw [if_pos c30] at H
      have c30b0 := eq_true c30
      have c30b1 : decide (x8_1 ≤ (wrap64 (x8_1 + 1))) = true := decide_eq_true c30
      by_cases c31 : (wrap64 (x8_1 + 1)) ≤ (t105.length : Int)
      rotate_left
      · rw [if_neg c31] at H
        exact absurd H (by simp)
      rw [if_pos c31] at H
      have c31b0 := eq_true c31
      have c31b1 : decide ((wrap64 (x8_1 + 1)) ≤ (t105.length : Int)) = true := decide_eq_true c31
      obtain ⟨y111, hy111⟩ : ∃ y_ : List (List (S28)), y_ = ((t105.take ((wrap64 (x8_1 + 1)) : Int).toNat).drop (x8_1 : Int).toNat) := ⟨_, rfl⟩
      replace H : ((smf_Print.f k1 t103 t104 y111).bind fun bt117 => (if bt117.2 = 0 then (if (bt117.1.size : Int) < 14 then (none) else (if 0 ≤ 10 then (if 10 ≤ (bt117.1.size : Int) then (if 10 ≤ (t109.size : Int) then (if (bt117.1.extract 0 10).toList = (t109.extract 0 10).toList then (if 10 ≤ 12 then (if 12 ≤ (bt117.1.size : Int) then (if (bt117.1.extract 10 12).toList = ([0, 1] : List UInt8) then (if 12 ≤ 14 then (if 14 ≤ (bt117.1.size : Int) then (if 14 ≤ (t109.size : Int) then (if (bt117.1.extract 12 14).toList = (t109.extract 12 14).toList then (if x7_1.size + (bt117.1.extract 14 bt117.1.size).size ≤ 9223372036854775807 then (partitalaw16_SmfJoins.l0 k1 true t109 (x7_1 ++ (bt117.1.extract 14 bt117.1.size)) (wrap64 (x8_1 + 1)) t103 t104 t105) else (none)) else (some false)) else (none)) else (none)) else (none)) else (none)) else (none)) else (none)) else (none)) else (none)) else (none)) else (none))) else (none))) = some r := by first | (rw [hy111]; with_reducible exact H) | (have H2_ := (Option.bind_some _ _).symm.trans H; rw [hy111]; with_reducible exact H2_) | (have H2_ := (Option.bind_some _ _).symm.trans H; with_reducible exact H2_) | with_reducible exact H | (rw [hy111]; exact H) | exact H
      have Ny111 := Aside0.mk hy111
      clear hy111
      replace H := Option.bind_eq_some_iff.mp H
      obtain ⟨⟨t117, t118⟩, A320, H⟩ := H
      replace H : (if t118 = 0 then (if (t117.size : Int) < 14 then (none) else (if 0 ≤ 10 then (if 10 ≤ (t117.size : Int) then (if 10 ≤ (t109.size : Int) then (if (t117.extract 0 10).toList = (t109.extract 0 10).toList then (if 10 ≤ 12 then (if 12 ≤ (t117.size : Int) then (if (t117.extract 10 12).toList = ([0, 1] : List UInt8) then (if 12 ≤ 14 then (if 14 ≤ (t117.size : Int) then (if 14 ≤ (t109.size : Int) then (if (t117.extract 12 14).toList = (t109.extract 12 14).toList then (if x7_1.size + (t117.extract 14 t117.size).size ≤ 9223372036854775807 then (partitalaw16_SmfJoins.l0 k1 true t109 (x7_1 ++ (t117.extract 14 t117.size)) (wrap64 (x8_1 + 1)) t103 t104 t105) else (none)) else (some false)) else (none)) else (none)) else (none)) else (none)) else (none)) else (none)) else (none)) else (none)) else (none)) else (none))) else (none)) = some r := H
      have A32 := Aside0.mk A320
      clear A320
      by_cases c33 : t118 = 0
      rotate_left
      · rw [if_neg c33] at H
        exact absurd H (by simp)
      rw [if_pos c33] at H
      have c33b0 : (t118 == 0) = true := beq_iff_eq.mpr c33
      have c33b1 : (t118 != 0) = false := bne_eq_false_iff_eq.mpr c33
      clear c33
      by_cases c34 : (t117.size : Int) < 14
      · rw [if_pos c34] at H
        exact absurd H (by simp)
      rw [if_neg c34] at H
      have c34b0 : decide ((t117.size : Int) < 14) = false := decide_eq_false c34
      have c34b1 : decide (t117.size < 14) = false := decide_eq_false (by omega)
      clear c34
      by_cases c35 : 0 ≤ 10
      rotate_left
      · rw [if_neg c35] at H
        exact absurd H (by simp)
      rw [if_pos c35] at H
      have c35b0 := eq_true c35
      have c35b1 : decide (0 ≤ 10) = true := decide_eq_true c35
      clear c35
      by_cases c36 : 10 ≤ (t117.size : Int)
      rotate_left
      · rw [if_neg c36] at H
        exact absurd H (by simp)
      rw [if_pos c36] at H
      have c36b0 := eq_true c36
      have c36b1 : decide (10 ≤ (t117.size : Int)) = true := decide_eq_true c36
      clear c36
      have c37b0 := eq_true (of_decide_eq_true (by first | (with_reducible assumption) | assumption) : 0 ≤ 10)
      by_cases c38 : 10 ≤ (t109.size : Int)
      rotate_left
      · rw [if_neg c38] at H
        exact absurd H (by simp)
      rw [if_pos c38] at H
      have c38b0 := eq_true c38
      have c38b1 : decide (10 ≤ (t109.size : Int)) = true := decide_eq_true c38
      clear c38
      by_cases c39 : (t117.extract 0 10).toList = (t109.extract 0 10).toList
      rotate_left
      · rw [if_neg c39] at H
        exact absurd H (by simp)
      rw [if_pos c39] at H
      have c39b0 : ((t117.extract 0 10).toList == (t109.extract 0 10).toList) = true := beq_iff_eq.mpr c39
      have c39b1 : ((t117.extract 0 10).toList != (t109.extract 0 10).toList) = false := bne_eq_false_iff_eq.mpr c39
      clear c39
      by_cases c40 : 10 ≤ 12
      rotate_left
      · rw [if_neg c40] at H
        exact absurd H (by simp)
      rw [if_pos c40] at H
      have c40b0 := eq_true c40
      have c40b1 : decide (10 ≤ 12) = true := decide_eq_true c40
      clear c40
      by_cases c41 : 12 ≤ (t117.size : Int)
      rotate_left
      · rw [if_neg c41] at H
        exact absurd H (by simp)
      rw [if_pos c41] at H
      have c41b0 := eq_true c41
      have c41b1 : decide (12 ≤ (t117.size : Int)) = true := decide_eq_true c41
      clear c41
      by_cases c42 : (t117.extract 10 12).toList = ([0, 1] : List UInt8)
      rotate_left
      · rw [if_neg c42] at H
        exact absurd H (by simp)
      rw [if_pos c42] at H
      have c42b0 : ((t117.extract 10 12).toList == ([0, 1] : List UInt8)) = true := beq_iff_eq.mpr c42
      have c42b1 : ((t117.extract 10 12).toList != ([0, 1] : List UInt8)) = false := bne_eq_false_iff_eq.mpr c42
      clear c42
      by_cases c43 : 12 ≤ 14
      rotate_left
      · rw [if_neg c43] at H
        exact absurd H (by simp)
      rw [if_pos c43] at H
      have c43b0 := eq_true c43
      have c43b1 : decide (12 ≤ 14) = true := decide_eq_true c43
      clear c43
      by_cases c44 : 14 ≤ (t117.size : Int)
      rotate_left
      · rw [if_neg c44] at H
        exact absurd H (by simp)
      rw [if_pos c44] at H
      have c44b0 := eq_true c44
      have c44b1 : decide (14 ≤ (t117.size : Int)) = true := decide_eq_true c44
      clear c44
      have c45b0 := eq_true (of_decide_eq_true (by first | (with_reducible assumption) | assumption) : 12 ≤ 14)
      by_cases c46 : 14 ≤ (t109.size : Int)
      rotate_left
      · rw [if_neg c46] at H
        exact absurd H (by simp)
      rw [if_pos c46] at H
      have c46b0 := eq_true c46
      have c46b1 : decide (14 ≤ (t109.size : Int)) = true := decide_eq_true c46
      clear c46
      by_cases c47 : (t117.extract 12 14).toList = (t109.extract 12 14).toList
      rotate_left
      · rw [if_neg c47] at H
        have c47b0 : ((t117.extract 12 14).toList == (t109.extract 12 14).toList) = false := beq_eq_false_iff_ne.mpr c47
        have c47b1 : ((t117.extract 12 14).toList != (t109.extract 12 14).toList) = true := bne_iff_ne.mpr c47
        obtain rfl := Option.some.inj H
        have hnb63 := NB108_101.out
        have hnc63 := NB101_108.out
        obtain ⟨hcz64_0, hcz64_1, hcz64_2, hfz64_0, hfz64_1, hfz64_2⟩ := blk3 BK108.out
        try go_wp2
        replace HO_109002 := Aside0.mk (Kd.N_drew HO_109002.out)
        replace BK101 := Aside0.mk (blk_drew BK101.out)
        replace BK108 := Aside0.mk (blk_drew BK108.out)
        replace HB := Aside0.mk (below_drew1 HB.out)
        have q66 : ((wrap64 (x8_1 + 1)) : Int) ≤ ((t105.length : Int) : Int) := of_decide_eq_true (by first | (with_reducible assumption) | assumption)
        obtain ⟨i066, hi066, _, hsz66, _⟩ := info_parts info30
        have hroom66 : t105.length ≤ co26 := (Kd.N_reads' HO_109002.out).2.1
        have hC66 : Kd.F (Kd.slice 28 k28) _ _ Ao26 t105.length t105 := (Kd.V_at (base := w.heap.size) (Kd.N_V HO_109002.out)).2.2
        have ql66 : (x8_1 : Int) ≤ ((wrap64 (x8_1 + 1)) : Int) := of_decide_eq_true (by first | (with_reducible assumption) | assumption)
        have q066 : (0 : Int) ≤ (x8_1 : Int) := of_decide_eq_true (by first | (with_reducible assumption) | assumption)
        have hcut66 := cut_mid (P := Try.prog) 22 30 .i64 .i64 Try.underlying22 hi066 1 hsz66 Ao26 t105.length co26 x8_1 (wrap64 (x8_1 + 1)) q066 ql66 q66 hroom66
        have hr66 := Kd.F_mid (lo := (x8_1 : Int).toNat) (hi := ((wrap64 (x8_1 + 1)) : Int).toNat) (c := co26) hC66 (by omega) (by omega) hroom66
        obtain ⟨A66, hA66⟩ : ∃ A1, A1 = (if co26 = (x8_1 : Int).toNat then Ao26 else (Ao26 : Option Addr).map (·.add ((x8_1 : Int).toNat * 1))) := ⟨_, rfl⟩
        obtain ⟨c66, hc66⟩ : ∃ c1, c1 = co26 - (x8_1 : Int).toNat := ⟨_, rfl⟩
        have hy66 : y111.length = ((wrap64 (x8_1 + 1)) : Int).toNat - (x8_1 : Int).toNat := (by rw [Ny111.out, List.length_drop, List.length_take] <;> omega)
        rw [show ((t105).take ((wrap64 (x8_1 + 1)) : Int).toNat).drop (x8_1 : Int).toNat = y111 from Ny111.out.symm] at hr66
        replace hr66 : Kd.F (Kd.slice 28 k28) _ _ A66 y111.length y111 := (by rw [hA66]; exact hr66)
        rw [← hy66, ← hA66, ← hc66] at hcut66
        have HO115 := Aside0.mk (show Kd.V (Kd.slice 28 k28) 30 _ w.heap.size _ (.slice A66 y111.length c66) y111 from Kd.V_mk (by rw [hy66, hc66]; exact Nat.sub_le_sub_right (Nat.le_trans (by omega) hroom66) _) hr66)
        have HC115 := Aside0.mk (show y111.length ≤ c66 from by rw [hy66, hc66]; exact Nat.sub_le_sub_right (Nat.le_trans (by omega) hroom66) _)
        clear hr66 hC66 hroom66 hi066 hsz66 hc66
        have KY66 := Aside0.mk hy66
        have KA66 := Aside0.mk hA66
        clear hy66 hA66
        replace q66 := eq_true q66
        refine start_ (n := 13) (S := fun w' => w'.cell? ⟨gb108, 0, none⟩ = some (.int .i64 t103) ∧ w'.cell? ⟨gb108, 1, none⟩ = some (.int .i64 t104) ∧ w'.cell? ⟨gb108, 2, none⟩ = some (.slice Ao26 t105.length co26)) (ds := []) #[false, false, false, false, false, false, false, false, false, false, false, false, false] (by kernel_rfl) rfl rfl ⟨(blk_cell BK108.out 0).trans rfl, (blk_cell BK108.out 1).trans rfl, (blk_cell BK108.out 2).trans rfl⟩ (fun hHeld => ?_); refine with_tabW partitalaw16_SmfJoins.tab12 partitalaw16_SmfJoins.bits12 (fun HT_ HW_ => ?_)
        generalize wr.drew = w65 at HO_109002 BK101 BK108 HB HO115 hHeld ⊢
        refine pure_ (i := 0) (N := some 38) (v := ?_) (a' := ?_) #[true, false, false, false, false, false, false, false, false, false, false, false, false] rfl rfl (any_of HT_.out (by kernel_rfl)) (fun _ _ _ h => h) (Or.inl ⟨by rfl, ?_⟩) ?_ ?_
        rotate_left
        · intro w'
          go_simp
          with_reducible rfl
        rotate_left
        · simp only [Act.put, List.setIfInBounds_toArray, List.set_cons_zero, List.set_cons_succ, i64_w, i32_w]
          rfl
        refine pure_ (i := 2) (N := some 40) (v := ?_) (a' := ?_) #[true, false, true, false, false, false, false, false, false, false, false, false, false] rfl rfl (any_of HT_.out (by kernel_rfl)) (fun _ _ _ h => h) (Or.inl ⟨by rfl, ?_⟩) ?_ ?_
        rotate_left
        · intro w'
          go_simp
          with_reducible rfl
        rotate_left
        · simp only [Act.put, List.setIfInBounds_toArray, List.set_cons_zero, List.set_cons_succ, i64_w, i32_w]
          rfl
        refine pure_ (i := 4) (N := some 42) (v := ?_) (a' := ?_) #[true, false, true, false, true, false, false, false, false, false, false, false, false] rfl rfl (any_of HT_.out (by kernel_rfl)) (fun _ _ _ h => h) (Or.inl ⟨by rfl, ?_⟩) ?_ ?_
        rotate_left
        · intro w'
          go_simp
          with_reducible rfl
        rotate_left
        · simp only [Act.put, List.setIfInBounds_toArray, List.set_cons_zero, List.set_cons_succ, i64_w, i32_w]
          rfl
        refine pure_ (i := 6) (N := some 44) (v := ?_) (a' := ?_) #[true, false, true, false, true, false, true, false, false, false, false, false, false] rfl rfl (any_of HT_.out (by kernel_rfl)) (fun _ _ _ h => h) (Or.inl ⟨by rfl, ?_⟩) ?_ ?_
        rotate_left
        · intro w'
          go_simp
          with_reducible rfl
        rotate_left
        · simp only [Act.put, List.setIfInBounds_toArray, List.set_cons_zero, List.set_cons_succ, i64_w, i32_w]
          rfl
        refine pure_ (i := 7) (N := some 45) (v := ?_) (a' := ?_) #[true, false, true, false, true, false, true, true, false, false, false, false, false] rfl rfl (any_of HT_.out (by kernel_rfl)) (fun _ _ _ h => h) (Or.inl ⟨by rfl, ?_⟩) ?_ ?_
        rotate_left
        · intro w'
          go_simp
          with_reducible rfl
        rotate_left
        · simp only [Act.put, List.setIfInBounds_toArray, List.set_cons_zero, List.set_cons_succ, i64_w, i32_w]
          rfl
        refine pure_ (i := 8) (N := some 46) (v := ?_) (a' := ?_) #[true, false, true, false, true, false, true, true, true, false, false, false, false] rfl rfl (any_of HT_.out (by kernel_rfl)) (fun _ _ _ h => h) (Or.inl ⟨by rfl, ?_⟩) ?_ ?_
        rotate_left
        · intro w'
          go_simp
          with_reducible rfl
        rotate_left
        · simp only [Act.put, List.setIfInBounds_toArray, List.set_cons_zero, List.set_cons_succ, i64_w, i32_w]
          rfl
        refine take_ (i := 1) (N := some 39) (v := ?_) (a' := ?_) #[true, true, true, false, true, false, true, true, true, false, false, false, false] rfl rfl (take_ofW HT_.out HW_.out (by kernel_rfl)) (fun _ _ _ h => h) (Or.inl ⟨by rfl, ?_⟩) hHeld ?_ ?_
        rotate_left
        · rintro w' ⟨s0, s1, s2⟩
          go_simp
          with_reducible rfl
        rotate_left
        · simp only [Act.put, List.setIfInBounds_toArray, List.set_cons_zero, List.set_cons_succ, i64_w, i32_w]
          rfl
        refine take_ (i := 3) (N := some 41) (v := ?_) (a' := ?_) #[true, true, true, true, true, false, true, true, true, false, false, false, false] rfl rfl (take_ofW HT_.out HW_.out (by kernel_rfl)) (fun _ _ _ h => h) (Or.inl ⟨by rfl, ?_⟩) hHeld ?_ ?_
        rotate_left
        · rintro w' ⟨s0, s1, s2⟩
          go_simp
          with_reducible rfl
        rotate_left
        · simp only [Act.put, List.setIfInBounds_toArray, List.set_cons_zero, List.set_cons_succ, i64_w, i32_w]
          rfl
        refine take_ (i := 5) (N := some 43) (v := ?_) (a' := ?_) #[true, true, true, true, true, true, true, true, true, false, false, false, false] rfl rfl (take_ofW HT_.out HW_.out (by kernel_rfl)) (fun _ _ _ h => h) (Or.inl ⟨by rfl, ?_⟩) hHeld ?_ ?_
        rotate_left
        · rintro w' ⟨s0, s1, s2⟩
          go_simp
          with_reducible rfl
        rotate_left
        · simp only [Act.put, List.setIfInBounds_toArray, List.set_cons_zero, List.set_cons_succ, i64_w, i32_w]
          rfl
        refine pure_ (i := 9) (N := some 47) (v := ?_) (a' := ?_) #[true, true, true, true, true, true, true, true, true, true, false, false, false] rfl rfl (any_of HT_.out (by kernel_rfl)) (fun _ _ _ h => h) (Or.inl ⟨by rfl, ?_⟩) ?_ ?_
        rotate_left
        · intro w'
          go_simp
          with_reducible rfl
        rotate_left
        · simp only [Act.put, List.setIfInBounds_toArray, List.set_cons_zero, List.set_cons_succ, i64_w, i32_w]
          rfl
        refine pure_ (i := 10) (N := some 48) (v := ?_) (a' := ?_) #[true, true, true, true, true, true, true, true, true, true, true, false, false] rfl rfl (any_of HT_.out (by kernel_rfl)) (fun _ _ _ h => h) (Or.inl ⟨by rfl, ?_⟩) ?_ ?_
        rotate_left
        · intro w'
          go_simp
          with_reducible rfl
        rotate_left
        · simp only [Act.put, List.setIfInBounds_toArray, List.set_cons_zero, List.set_cons_succ, i64_w, i32_w]
          rfl
        refine one_ (i := 11) (N := some 9) #[true, true, true, true, true, true, true, true, true, true, true, true, false] rfl rfl (one_of HT_.out (by kernel_rfl)) (by decide) (fun K hK => ?_)
        refine box_step ?hg (N := 9) ?hd (cs := #[.int .i64 0, .int .i64 0, .slice none 0 0]) (t := 24) ?hr ?_; (case hd => rfl); (case hg => rfl); (case hr => first | (go_simp; done) | (go_simp; rfl))
        intro gb116 hg w67 hbox hb
        replace HO_109002 := Aside0.mk (Kd.N_below (Kd.N_elderB (qN HO_109002.out) gb116 (Nat.le_of_eq hg.symm)) hb)
        replace HO115 := Aside0.mk (Kd.V_below (Kd.V_elderB (by (with_reducible repeat (first | apply Kd.V_alloc | apply Kd.V_drewN | apply Kd.V_drew)); exact HO115.out) gb116 (Nat.le_of_eq hg.symm)) hb)
        have BK116 := Aside0.mk (hbox)
        have GW116 := Aside0.mk ((by rw [hg]; exact (below_size (qS2 GE101 GE108 HB.out)) : w.heap.size ≤ gb116))
        have GE116 := Aside0.mk ((by rw [hg]; exact (below_size (qS2 GE101 GE108 HB.out)) : w.heap.size ≤ gb116))
        replace HB := Aside0.mk (below_step (qS2 GE101 GE108 HB.out) hb)
        have NB101_116 := Aside0.mk ((by rw [hg]; exact Nat.ne_of_lt (blk_lt (bq BK101.out)) : gb101 ≠ gb116))
        have NB116_101 := Aside0.mk ((by rw [hg]; exact Nat.ne_of_gt (blk_lt (bq BK101.out)) : gb116 ≠ gb101))
        replace BK101 := Aside0.mk (blk_below (bq BK101.out) hb)
        have NB108_116 := Aside0.mk ((by rw [hg]; exact Nat.ne_of_lt (blk_lt (bq BK108.out)) : gb108 ≠ gb116))
        have NB116_108 := Aside0.mk ((by rw [hg]; exact Nat.ne_of_gt (blk_lt (bq BK108.out)) : gb116 ≠ gb108))
        replace BK108 := Aside0.mk (blk_below (bq BK108.out) hb)
        clear hb hbox hg
        refine hK.out _ _ ⟨(blk_cell BK108.out 0).trans rfl, (blk_cell BK108.out 1).trans rfl, (blk_cell BK108.out 2).trans rfl⟩ (fun hHeld => ?_)
        clear hK K
        refine norm_ (a' := ?_) ?_ ?_
        rotate_left
        · show Act.put _ (some 9) _ = _
          simp only [Act.put, List.setIfInBounds_toArray, List.set_cons_zero, List.set_cons_succ, i64_w, i32_w]
          rfl
        refine one_ (i := 12) (N := none) #[true, true, true, true, true, true, true, true, true, true, true, true, true] rfl rfl (one_of HT_.out (by kernel_rfl)) (by decide) (fun K hK => ?_)
        have hs68 : w67.cell? ⟨gb116, 0, none⟩ = some (.int .i64 0) := (blk_cell BK116.out 0).trans rfl
        have hfs68 := blk_frozen BK116.out 0
        have hns68_0 := NB101_116.out
        have hns68_1 := NB108_116.out
        have hms68_0 := NB116_101.out
        have hms68_1 := NB116_108.out
        have hs69 : w67.cell? ⟨gb116, 1, none⟩ = some (.int .i64 0) := (blk_cell BK116.out 1).trans rfl
        have hfs69 := blk_frozen BK116.out 1
        have hns69_0 := NB101_116.out
        have hns69_1 := NB108_116.out
        have hms69_0 := NB116_101.out
        have hms69_1 := NB116_108.out
        have hs70 : w67.cell? ⟨gb116, 2, none⟩ = some (.slice none 0 0) := (blk_cell BK116.out 2).trans rfl
        have hfs70 := blk_frozen BK116.out 2
        have hns70_0 := NB101_116.out
        have hns70_1 := NB108_116.out
        have hms70_0 := NB116_101.out
        have hms70_1 := NB116_108.out
        refine skip_ (w1 := ?_) (by rfl) rfl ?_ ?_
        rotate_left
        · go_simp
          rfl
        refine hK.out _ _ ⟨((cell_far (p := ⟨gb116, _, none⟩) NB108_116.out _).trans (((cell_far (p := ⟨gb116, _, none⟩) NB108_116.out _).trans (((cell_far (p := ⟨gb116, _, none⟩) NB108_116.out _).trans (hHeld.1)))))), ((cell_far (p := ⟨gb116, _, none⟩) NB108_116.out _).trans (((cell_far (p := ⟨gb116, _, none⟩) NB108_116.out _).trans (((cell_far (p := ⟨gb116, _, none⟩) NB108_116.out _).trans (hHeld.2.1)))))), ((cell_far (p := ⟨gb116, _, none⟩) NB108_116.out _).trans (((cell_far (p := ⟨gb116, _, none⟩) NB108_116.out _).trans (((cell_far (p := ⟨gb116, _, none⟩) NB108_116.out _).trans (hHeld.2.2))))))⟩ (fun hHeld => ?_)
        clear hK K
        refine done_ (done_of HT_.out (by kernel_rfl)) ?_
        have hnb71 := NB116_101.out
        have hnc71 := NB101_116.out
        have hnb72 := NB116_108.out
        have hnc72 := NB108_116.out
        obtain ⟨hcz73_0, hcz73_1, hcz73_2, hfz73_0, hfz73_1, hfz73_2⟩ := blk3 BK116.out
        try go_wp2_with (first | ((with_reducible refine gate_callee (f := 15) rfl ?_); refine goesL_ (some 51) rfl rfl Try.func15 (by kernel_rfl) rfl #[.agg #[.int .i64 t103, .int .i64 t104, .slice A66 y111.length c66]] rfl (by (try simp only [List.map_toArray, List.map_cons, List.map_nil]); first | done | rfl | (simp only [List.length_drop, List.length_take]; rfl)) ?_; (with_reducible refine (smf_Print.calls k1 t103 t104 _ _ y111 t117 t118 _ ?side1 ?side2 A32.out).mono ?_); (case side1 => refine (Kd.V_reads' (e := 30) (base := w.heap.size) (ok := fun k_ => ((k_ ≠ gb101 ∧ k_ ≠ gb108) ∧ k_ ≠ gb116)) (n := y111.length) (c := c66) ?_).2.2; exact (by (with_reducible repeat (first | apply Kd.V_alloc | apply Kd.V_drewN | apply Kd.V_drew)); exact (Kd.V_mono (Kd.V_far (p := ⟨gb116, 2, none⟩) (Kd.V_far (p := ⟨gb116, 1, none⟩) (Kd.V_far (p := ⟨gb116, 0, none⟩) (Kd.V_mono HO115.out (fun k_ hk => (⟨hk, hk.2⟩ : _ ∧ k_ ≠ gb116))) (fun _ hk => hk.2) (.int .i64 t103)) (fun _ hk => hk.2) (.int .i64 t104)) (fun _ hk => hk.2) (.slice A66 y111.length c66)) (fun _ h_ => h_.1)))); (case side2 => exact (Kd.V_reads' HO115.out).2.1); rintro e w74 ⟨rfl, hb⟩; refine ⟨_, rfl, ?_⟩; replace HO_109002 := Aside0.mk (Kd.N_below (by (with_reducible repeat (first | apply Kd.N_alloc | apply Kd.N_drewN | apply Kd.N_drew)); exact (Kd.N_mono (Kd.N_far (p := ⟨gb116, 2, none⟩) (Kd.N_far (p := ⟨gb116, 1, none⟩) (Kd.N_far (p := ⟨gb116, 0, none⟩) (Kd.N_mono HO_109002.out (fun k_ hk => (⟨hk, hk.2⟩ : _ ∧ k_ ≠ gb116))) (fun _ hk => hk.2) (.int .i64 t103)) (fun _ hk => hk.2) (.int .i64 t104)) (fun _ hk => hk.2) (.slice A66 y111.length c66)) (fun _ h_ => h_.1))) hb); replace HO115 := Aside0.mk (Kd.V_below (by (with_reducible repeat (first | apply Kd.V_alloc | apply Kd.V_drewN | apply Kd.V_drew)); exact (Kd.V_mono (Kd.V_far (p := ⟨gb116, 2, none⟩) (Kd.V_far (p := ⟨gb116, 1, none⟩) (Kd.V_far (p := ⟨gb116, 0, none⟩) (Kd.V_mono HO115.out (fun k_ hk => (⟨hk, hk.2⟩ : _ ∧ k_ ≠ gb116))) (fun _ hk => hk.2) (.int .i64 t103)) (fun _ hk => hk.2) (.int .i64 t104)) (fun _ hk => hk.2) (.slice A66 y111.length c66)) (fun _ h_ => h_.1))) hb); replace BK101 := Aside0.mk (blk_below (g := gb101) (o := .cells #[.int .i64 a0_0, .int .i64 a0_1, .slice A0_2 l0_2.length c0_2] 24 (0, 0)) (by refine bq ?_; refine blk_far ?_ NB101_116.out _; refine bq ?_; refine blk_far ?_ NB101_116.out _; refine bq ?_; refine blk_far ?_ NB101_116.out _; exact bq BK101.out) hb); replace BK108 := Aside0.mk (blk_below (g := gb108) (o := .cells #[.int .i64 t103, .int .i64 t104, .slice Ao26 t105.length co26] 24 (0, 0)) (by refine bq ?_; refine blk_far ?_ NB108_116.out _; refine bq ?_; refine blk_far ?_ NB108_116.out _; refine bq ?_; refine blk_far ?_ NB108_116.out _; exact bq BK108.out) hb); replace BK116 := Aside0.mk (blk_below (g := gb116) (o := .cells #[.int .i64 t103, .int .i64 t104, .slice A66 y111.length c66] 24 (0, 0)) (by refine bq ?_; refine blk_put (cs := #[.int .i64 t103, .int .i64 t104, .slice none 0 0]) ?_ 2 _ rfl; refine bq ?_; refine blk_put (cs := #[.int .i64 t103, .int .i64 0, .slice none 0 0]) ?_ 1 _ rfl; refine bq ?_; refine blk_put (cs := #[.int .i64 0, .int .i64 0, .slice none 0 0]) ?_ 0 _ rfl; exact bq BK116.out) hb); replace HB := Aside0.mk (below_step (qS3 GE101 GE108 GE116 HB.out) hb); (try clear hb); (try clear hb2); (try clear hk); (try clear hi)))
        replace HO_109002 := Aside0.mk (Kd.N_drew HO_109002.out)
        replace HO115 := Aside0.mk (Kd.V_drew HO115.out)
        replace BK101 := Aside0.mk (blk_drew BK101.out)
        replace BK108 := Aside0.mk (blk_drew BK108.out)
        replace BK116 := Aside0.mk (blk_drew BK116.out)
        replace HB := Aside0.mk (below_drew1 HB.out)
        refine start_ (n := 26) (S := fun w' => True) (ds := []) #[false, false, false, false, false, false, false, false, false, false, false, false, false, false, false, false, false, false, false, false, false, false, false, false, false, false] (by kernel_rfl) rfl rfl trivial (fun hHeld => ?_); refine with_tabW partitalaw16_SmfJoins.tab14 partitalaw16_SmfJoins.bits14 (fun HT_ HW_ => ?_)
        generalize w74.drew = w75 at HO_109002 HO115 BK101 BK108 BK116 HB hHeld ⊢
        refine pure_ (i := 0) (N := some 54) (v := ?_) (a' := ?_) #[true, false, false, false, false, false, false, false, false, false, false, false, false, false, false, false, false, false, false, false, false, false, false, false, false, false] rfl rfl (any_of HT_.out (by kernel_rfl)) (fun _ _ _ h => h) (Or.inl ⟨by rfl, ?_⟩) ?_ ?_
        rotate_left
        · intro w'
          go_simp
          with_reducible rfl
        rotate_left
        · simp only [Act.put, List.setIfInBounds_toArray, List.set_cons_zero, List.set_cons_succ, i64_w, i32_w]
          rfl
        refine pure_ (i := 1) (N := some 55) (v := ?_) (a' := ?_) #[true, true, false, false, false, false, false, false, false, false, false, false, false, false, false, false, false, false, false, false, false, false, false, false, false, false] rfl rfl (any_of HT_.out (by kernel_rfl)) (fun _ _ _ h => h) (Or.inl ⟨by rfl, ?_⟩) ?_ ?_
        rotate_left
        · intro w'
          go_simp
          with_reducible rfl
        rotate_left
        · simp only [Act.put, List.setIfInBounds_toArray, List.set_cons_zero, List.set_cons_succ, i64_w, i32_w]
          rfl
        refine pure_ (i := 2) (N := some 56) (v := ?_) (a' := ?_) #[true, true, true, false, false, false, false, false, false, false, false, false, false, false, false, false, false, false, false, false, false, false, false, false, false, false] rfl rfl (any_of HT_.out (by kernel_rfl)) (fun _ _ _ h => h) (Or.inl ⟨by rfl, ?_⟩) ?_ ?_
        rotate_left
        · intro w'
          go_simp
          with_reducible rfl
        rotate_left
        · simp only [Act.put, List.setIfInBounds_toArray, List.set_cons_zero, List.set_cons_succ, i64_w, i32_w]
          rfl
        refine pure_ (i := 3) (N := some 57) (v := ?_) (a' := ?_) #[true, true, true, true, false, false, false, false, false, false, false, false, false, false, false, false, false, false, false, false, false, false, false, false, false, false] rfl rfl (any_of HT_.out (by kernel_rfl)) (fun _ _ _ h => h) (Or.inl ⟨by rfl, ?_⟩) ?_ ?_
        rotate_left
        · intro w'
          go_simp
          with_reducible rfl
        rotate_left
        · simp only [Act.put, List.setIfInBounds_toArray, List.set_cons_zero, List.set_cons_succ, i64_w, i32_w]
          rfl
        refine pure_ (i := 4) (N := some 58) (v := ?_) (a' := ?_) #[true, true, true, true, true, false, false, false, false, false, false, false, false, false, false, false, false, false, false, false, false, false, false, false, false, false] rfl rfl (any_of HT_.out (by kernel_rfl)) (fun _ _ _ h => h) (Or.inl ⟨by rfl, ?_⟩) ?_ ?_
        rotate_left
        · intro w'
          go_simp
          with_reducible rfl
        rotate_left
        · simp only [Act.put, List.setIfInBounds_toArray, List.set_cons_zero, List.set_cons_succ, i64_w, i32_w]
          rfl
        refine pure_ (i := 5) (N := some 59) (v := ?_) (a' := ?_) #[true, true, true, true, true, true, false, false, false, false, false, false, false, false, false, false, false, false, false, false, false, false, false, false, false, false] rfl rfl (any_of HT_.out (by kernel_rfl)) (fun _ _ _ h => h) (Or.inl ⟨by rfl, ?_⟩) ?_ ?_
        rotate_left
        · intro w'
          go_simp
          with_reducible rfl
        rotate_left
        · simp only [Act.put, List.setIfInBounds_toArray, List.set_cons_zero, List.set_cons_succ, i64_w, i32_w]
          rfl
        refine pure_ (i := 6) (N := some 60) (v := ?_) (a' := ?_) #[true, true, true, true, true, true, true, false, false, false, false, false, false, false, false, false, false, false, false, false, false, false, false, false, false, false] rfl rfl (any_of HT_.out (by kernel_rfl)) (fun _ _ _ h => h) (Or.inl ⟨by rfl, ?_⟩) ?_ ?_
        rotate_left
        · intro w'
          go_simp
          with_reducible rfl
        rotate_left
        · simp only [Act.put, List.setIfInBounds_toArray, List.set_cons_zero, List.set_cons_succ, i64_w, i32_w]
          rfl
        refine pure_ (i := 7) (N := some 61) (v := ?_) (a' := ?_) #[true, true, true, true, true, true, true, true, false, false, false, false, false, false, false, false, false, false, false, false, false, false, false, false, false, false] rfl rfl (any_of HT_.out (by kernel_rfl)) (fun _ _ _ h => h) (Or.inl ⟨by rfl, ?_⟩) ?_ ?_
        rotate_left
        · intro w'
          go_simp
          with_reducible rfl
        rotate_left
        · simp only [Act.put, List.setIfInBounds_toArray, List.set_cons_zero, List.set_cons_succ, i64_w, i32_w]
          rfl
        refine pure_ (i := 8) (N := some 62) (v := ?_) (a' := ?_) #[true, true, true, true, true, true, true, true, true, false, false, false, false, false, false, false, false, false, false, false, false, false, false, false, false, false] rfl rfl (any_of HT_.out (by kernel_rfl)) (fun _ _ _ h => h) (Or.inl ⟨by rfl, ?_⟩) ?_ ?_
        rotate_left
        · intro w'
          go_simp
          with_reducible rfl
        rotate_left
        · simp only [Act.put, List.setIfInBounds_toArray, List.set_cons_zero, List.set_cons_succ, i64_w, i32_w]
          rfl
        refine pure_ (i := 9) (N := some 63) (v := ?_) (a' := ?_) #[true, true, true, true, true, true, true, true, true, true, false, false, false, false, false, false, false, false, false, false, false, false, false, false, false, false] rfl rfl (any_of HT_.out (by kernel_rfl)) (fun _ _ _ h => h) (Or.inl ⟨by rfl, ?_⟩) ?_ ?_
        rotate_left
        · intro w'
          go_simp
          with_reducible rfl
        rotate_left
        · simp only [Act.put, List.setIfInBounds_toArray, List.set_cons_zero, List.set_cons_succ, i64_w, i32_w]
          rfl
        refine pure_ (i := 10) (N := some 64) (v := ?_) (a' := ?_) #[true, true, true, true, true, true, true, true, true, true, true, false, false, false, false, false, false, false, false, false, false, false, false, false, false, false] rfl rfl (any_of HT_.out (by kernel_rfl)) (fun _ _ _ h => h) (Or.inl ⟨by rfl, ?_⟩) ?_ ?_
        rotate_left
        · intro w'
          go_simp
          with_reducible rfl
        rotate_left
        · simp only [Act.put, List.setIfInBounds_toArray, List.set_cons_zero, List.set_cons_succ, i64_w, i32_w]
          rfl
        refine pure_ (i := 11) (N := some 65) (v := ?_) (a' := ?_) #[true, true, true, true, true, true, true, true, true, true, true, true, false, false, false, false, false, false, false, false, false, false, false, false, false, false] rfl rfl (any_of HT_.out (by kernel_rfl)) (fun _ _ _ h => h) (Or.inl ⟨by rfl, ?_⟩) ?_ ?_
        rotate_left
        · intro w'
          go_simp
          with_reducible rfl
        rotate_left
        · simp only [Act.put, List.setIfInBounds_toArray, List.set_cons_zero, List.set_cons_succ, i64_w, i32_w]
          rfl
        refine pure_ (i := 12) (N := some 66) (v := ?_) (a' := ?_) #[true, true, true, true, true, true, true, true, true, true, true, true, true, false, false, false, false, false, false, false, false, false, false, false, false, false] rfl rfl (any_of HT_.out (by kernel_rfl)) (fun _ _ _ h => h) (Or.inl ⟨by rfl, ?_⟩) ?_ ?_
        rotate_left
        · intro w'
          go_simp
          with_reducible rfl
        rotate_left
        · simp only [Act.put, List.setIfInBounds_toArray, List.set_cons_zero, List.set_cons_succ, i64_w, i32_w]
          rfl
        refine pure_ (i := 13) (N := some 67) (v := ?_) (a' := ?_) #[true, true, true, true, true, true, true, true, true, true, true, true, true, true, false, false, false, false, false, false, false, false, false, false, false, false] rfl rfl (any_of HT_.out (by kernel_rfl)) (fun _ _ _ h => h) (Or.inl ⟨by rfl, ?_⟩) ?_ ?_
        rotate_left
        · intro w'
          go_simp
          with_reducible rfl
        rotate_left
        · simp only [Act.put, List.setIfInBounds_toArray, List.set_cons_zero, List.set_cons_succ, i64_w, i32_w]
          rfl
        refine pure_ (i := 14) (N := some 68) (v := ?_) (a' := ?_) #[true, true, true, true, true, true, true, true, true, true, true, true, true, true, true, false, false, false, false, false, false, false, false, false, false, false] rfl rfl (any_of HT_.out (by kernel_rfl)) (fun _ _ _ h => h) (Or.inl ⟨by rfl, ?_⟩) ?_ ?_
        rotate_left
        · intro w'
          go_simp
          with_reducible rfl
        rotate_left
        · simp only [Act.put, List.setIfInBounds_toArray, List.set_cons_zero, List.set_cons_succ, i64_w, i32_w]
          rfl
        refine pure_ (i := 15) (N := some 69) (v := ?_) (a' := ?_) #[true, true, true, true, true, true, true, true, true, true, true, true, true, true, true, true, false, false, false, false, false, false, false, false, false, false] rfl rfl (any_of HT_.out (by kernel_rfl)) (fun _ _ _ h => h) (Or.inl ⟨by rfl, ?_⟩) ?_ ?_
        rotate_left
        · intro w'
          go_simp
          with_reducible rfl
        rotate_left
        · simp only [Act.put, List.setIfInBounds_toArray, List.set_cons_zero, List.set_cons_succ, i64_w, i32_w]
          rfl
        refine pure_ (i := 16) (N := some 70) (v := ?_) (a' := ?_) #[true, true, true, true, true, true, true, true, true, true, true, true, true, true, true, true, true, false, false, false, false, false, false, false, false, false] rfl rfl (any_of HT_.out (by kernel_rfl)) (fun _ _ _ h => h) (Or.inl ⟨by rfl, ?_⟩) ?_ ?_
        rotate_left
        · intro w'
          go_simp
          with_reducible rfl
        rotate_left
        · simp only [Act.put, List.setIfInBounds_toArray, List.set_cons_zero, List.set_cons_succ, i64_w, i32_w]
          rfl
        refine pure_ (i := 17) (N := some 71) (v := ?_) (a' := ?_) #[true, true, true, true, true, true, true, true, true, true, true, true, true, true, true, true, true, true, false, false, false, false, false, false, false, false] rfl rfl (any_of HT_.out (by kernel_rfl)) (fun _ _ _ h => h) (Or.inl ⟨by rfl, ?_⟩) ?_ ?_
        rotate_left
        · intro w'
          go_simp
          with_reducible rfl
        rotate_left
        · simp only [Act.put, List.setIfInBounds_toArray, List.set_cons_zero, List.set_cons_succ, i64_w, i32_w]
          rfl
        refine pure_ (i := 18) (N := some 72) (v := ?_) (a' := ?_) #[true, true, true, true, true, true, true, true, true, true, true, true, true, true, true, true, true, true, true, false, false, false, false, false, false, false] rfl rfl (any_of HT_.out (by kernel_rfl)) (fun _ _ _ h => h) (Or.inl ⟨by rfl, ?_⟩) ?_ ?_
        rotate_left
        · intro w'
          go_simp
          with_reducible rfl
        rotate_left
        · simp only [Act.put, List.setIfInBounds_toArray, List.set_cons_zero, List.set_cons_succ, i64_w, i32_w]
          rfl
        refine pure_ (i := 19) (N := some 73) (v := ?_) (a' := ?_) #[true, true, true, true, true, true, true, true, true, true, true, true, true, true, true, true, true, true, true, true, false, false, false, false, false, false] rfl rfl (any_of HT_.out (by kernel_rfl)) (fun _ _ _ h => h) (Or.inl ⟨by rfl, ?_⟩) ?_ ?_
        rotate_left
        · intro w'
          go_simp
          with_reducible rfl
        rotate_left
        · simp only [Act.put, List.setIfInBounds_toArray, List.set_cons_zero, List.set_cons_succ, i64_w, i32_w]
          rfl
        refine pure_ (i := 20) (N := some 74) (v := ?_) (a' := ?_) #[true, true, true, true, true, true, true, true, true, true, true, true, true, true, true, true, true, true, true, true, true, false, false, false, false, false] rfl rfl (any_of HT_.out (by kernel_rfl)) (fun _ _ _ h => h) (Or.inl ⟨by rfl, ?_⟩) ?_ ?_
        rotate_left
        · intro w'
          go_simp
          with_reducible rfl
        rotate_left
        · simp only [Act.put, List.setIfInBounds_toArray, List.set_cons_zero, List.set_cons_succ, i64_w, i32_w]
          rfl
        refine pure_ (i := 21) (N := some 75) (v := ?_) (a' := ?_) #[true, true, true, true, true, true, true, true, true, true, true, true, true, true, true, true, true, true, true, true, true, true, false, false, false, false] rfl rfl (any_of HT_.out (by kernel_rfl)) (fun _ _ _ h => h) (Or.inl ⟨by rfl, ?_⟩) ?_ ?_
        rotate_left
        · intro w'
          go_simp
          with_reducible rfl
        rotate_left
        · simp only [Act.put, List.setIfInBounds_toArray, List.set_cons_zero, List.set_cons_succ, i64_w, i32_w]
          rfl
        refine pure_ (i := 22) (N := some 76) (v := ?_) (a' := ?_) #[true, true, true, true, true, true, true, true, true, true, true, true, true, true, true, true, true, true, true, true, true, true, true, false, false, false] rfl rfl (any_of HT_.out (by kernel_rfl)) (fun _ _ _ h => h) (Or.inl ⟨by rfl, ?_⟩) ?_ ?_
        rotate_left
        · intro w'
          go_simp
          with_reducible rfl
        rotate_left
        · simp only [Act.put, List.setIfInBounds_toArray, List.set_cons_zero, List.set_cons_succ, i64_w, i32_w]
          rfl
        refine pure_ (i := 23) (N := some 77) (v := ?_) (a' := ?_) #[true, true, true, true, true, true, true, true, true, true, true, true, true, true, true, true, true, true, true, true, true, true, true, true, false, false] rfl rfl (any_of HT_.out (by kernel_rfl)) (fun _ _ _ h => h) (Or.inl ⟨by rfl, ?_⟩) ?_ ?_
        rotate_left
        · intro w'
          go_simp
          with_reducible rfl
        rotate_left
        · simp only [Act.put, List.setIfInBounds_toArray, List.set_cons_zero, List.set_cons_succ, i64_w, i32_w]
          rfl
        refine pure_ (i := 24) (N := some 78) (v := ?_) (a' := ?_) #[true, true, true, true, true, true, true, true, true, true, true, true, true, true, true, true, true, true, true, true, true, true, true, true, true, false] rfl rfl (any_of HT_.out (by kernel_rfl)) (fun _ _ _ h => h) (Or.inl ⟨by rfl, ?_⟩) ?_ ?_
        rotate_left
        · intro w'
          go_simp
          with_reducible rfl
        rotate_left
        · simp only [Act.put, List.setIfInBounds_toArray, List.set_cons_zero, List.set_cons_succ, i64_w, i32_w]
          rfl
        refine pure_ (i := 25) (N := some 79) (v := ?_) (a' := ?_) #[true, true, true, true, true, true, true, true, true, true, true, true, true, true, true, true, true, true, true, true, true, true, true, true, true, true] rfl rfl (any_of HT_.out (by kernel_rfl)) (fun _ _ _ h => h) (Or.inl ⟨by rfl, ?_⟩) ?_ ?_
        rotate_left
        · intro w'
          go_simp
          with_reducible rfl
        rotate_left
        · simp only [Act.put, List.setIfInBounds_toArray, List.set_cons_zero, List.set_cons_succ, i64_w, i32_w]
          rfl
        refine done_ (done_of HT_.out (by kernel_rfl)) ?_
        try go_wp2
        go_ret
        exact ⟨by first | rfl | (simp [errW_none, errW_some] <;> rfl) | (simp [*, errW_none, errW_some] <;> rfl), qS3 GE101 GE108 GE116 HB.out⟩
      rw [if_pos c47] at H
      have c47b0 : ((t117.extract 12 14).toList == (t109.extract 12 14).toList) = true := beq_iff_eq.mpr c47
      have c47b1 : ((t117.extract 12 14).toList != (t109.extract 12 14).toList) = false := bne_eq_false_iff_eq.mpr c47
      clear c47
      have c48b0 := eq_true (of_decide_eq_true (by first | (with_reducible assumption) | assumption) : 14 ≤ (t117.size : Int))
      by_cases c49 : x7_1.size + (t117.extract 14 t117.size).size ≤ 9223372036854775807
      rotate_left
      · rw [if_neg c49] at H
        exact absurd H (by simp)
      rw [if_pos c49] at H
      have c49b0 := eq_true c49
      have c49b1 : decide (x7_1.size + (t117.extract 14 t117.size).size ≤ 9223372036854775807) = true := decide_eq_true c49
      try have c49b2 : (9223372036854775807 < x7_1.size + (t117.extract 14 t117.size).size) = False := eq_false (Nat.not_lt.2 c49)
      have H' := Aside0.mk H
      clear H
      have hnb50 := NB108_101.out
      have hnc50 := NB101_108.out
      obtain ⟨hcz51_0, hcz51_1, hcz51_2, hfz51_0, hfz51_1, hfz51_2⟩ := blk3 BK108.out
      try go_wp2
      replace HO_109002 := Aside0.mk (Kd.N_drew HO_109002.out)
      replace BK101 := Aside0.mk (blk_drew BK101.out)
      replace BK108 := Aside0.mk (blk_drew BK108.out)
      replace HB := Aside0.mk (below_drew1 HB.out)
      have q53 : ((wrap64 (x8_1 + 1)) : Int) ≤ ((t105.length : Int) : Int) := of_decide_eq_true (by first | (with_reducible assumption) | assumption)
      obtain ⟨i053, hi053, _, hsz53, _⟩ := info_parts info30
      have hroom53 : t105.length ≤ co26 := (Kd.N_reads' HO_109002.out).2.1
      have hC53 : Kd.F (Kd.slice 28 k28) _ _ Ao26 t105.length t105 := (Kd.V_at (base := w.heap.size) (Kd.N_V HO_109002.out)).2.2
      have ql53 : (x8_1 : Int) ≤ ((wrap64 (x8_1 + 1)) : Int) := of_decide_eq_true (by first | (with_reducible assumption) | assumption)
      have q053 : (0 : Int) ≤ (x8_1 : Int) := of_decide_eq_true (by first | (with_reducible assumption) | assumption)
      have hcut53 := cut_mid (P := Try.prog) 22 30 .i64 .i64 Try.underlying22 hi053 1 hsz53 Ao26 t105.length co26 x8_1 (wrap64 (x8_1 + 1)) q053 ql53 q53 hroom53
      have hr53 := Kd.F_mid (lo := (x8_1 : Int).toNat) (hi := ((wrap64 (x8_1 + 1)) : Int).toNat) (c := co26) hC53 (by omega) (by omega) hroom53
      obtain ⟨A53, hA53⟩ : ∃ A1, A1 = (if co26 = (x8_1 : Int).toNat then Ao26 else (Ao26 : Option Addr).map (·.add ((x8_1 : Int).toNat * 1))) := ⟨_, rfl⟩
      obtain ⟨c53, hc53⟩ : ∃ c1, c1 = co26 - (x8_1 : Int).toNat := ⟨_, rfl⟩
      have hy53 : y111.length = ((wrap64 (x8_1 + 1)) : Int).toNat - (x8_1 : Int).toNat := (by rw [Ny111.out, List.length_drop, List.length_take] <;> omega)
      rw [show ((t105).take ((wrap64 (x8_1 + 1)) : Int).toNat).drop (x8_1 : Int).toNat = y111 from Ny111.out.symm] at hr53
      replace hr53 : Kd.F (Kd.slice 28 k28) _ _ A53 y111.length y111 := (by rw [hA53]; exact hr53)
      rw [← hy53, ← hA53, ← hc53] at hcut53
      have HO115 := Aside0.mk (show Kd.V (Kd.slice 28 k28) 30 _ w.heap.size _ (.slice A53 y111.length c53) y111 from Kd.V_mk (by rw [hy53, hc53]; exact Nat.sub_le_sub_right (Nat.le_trans (by omega) hroom53) _) hr53)
      have HC115 := Aside0.mk (show y111.length ≤ c53 from by rw [hy53, hc53]; exact Nat.sub_le_sub_right (Nat.le_trans (by omega) hroom53) _)
      clear hr53 hC53 hroom53 hi053 hsz53 hc53
      have KY53 := Aside0.mk hy53
      have KA53 := Aside0.mk hA53
      clear hy53 hA53
      replace q53 := eq_true q53
      refine start_ (n := 13) (S := fun w' => w'.cell? ⟨gb108, 0, none⟩ = some (.int .i64 t103) ∧ w'.cell? ⟨gb108, 1, none⟩ = some (.int .i64 t104) ∧ w'.cell? ⟨gb108, 2, none⟩ = some (.slice Ao26 t105.length co26)) (ds := []) #[false, false, false, false, false, false, false, false, false, false, false, false, false] (by kernel_rfl) rfl rfl ⟨(blk_cell BK108.out 0).trans rfl, (blk_cell BK108.out 1).trans rfl, (blk_cell BK108.out 2).trans rfl⟩ (fun hHeld => ?_); refine with_tabW partitalaw16_SmfJoins.tab12 partitalaw16_SmfJoins.bits12 (fun HT_ HW_ => ?_)
      generalize wr.drew = w52 at HO_109002 BK101 BK108 HB HO115 hHeld ⊢
      refine pure_ (i := 0) (N := some 38) (v := ?_) (a' := ?_) #[true, false, false, false, false, false, false, false, false, false, false, false, false] rfl rfl (any_of HT_.out (by kernel_rfl)) (fun _ _ _ h => h) (Or.inl ⟨by rfl, ?_⟩) ?_ ?_
      rotate_left
      · intro w'
        go_simp
        with_reducible rfl
      rotate_left
      · simp only [Act.put, List.setIfInBounds_toArray, List.set_cons_zero, List.set_cons_succ, i64_w, i32_w]
        rfl
      refine pure_ (i := 2) (N := some 40) (v := ?_) (a' := ?_) #[true, false, true, false, false, false, false, false, false, false, false, false, false] rfl rfl (any_of HT_.out (by kernel_rfl)) (fun _ _ _ h => h) (Or.inl ⟨by rfl, ?_⟩) ?_ ?_
      rotate_left
      · intro w'
        go_simp
        with_reducible rfl
      rotate_left
      · simp only [Act.put, List.setIfInBounds_toArray, List.set_cons_zero, List.set_cons_succ, i64_w, i32_w]
        rfl
      refine pure_ (i := 4) (N := some 42) (v := ?_) (a' := ?_) #[true, false, true, false, true, false, false, false, false, false, false, false, false] rfl rfl (any_of HT_.out (by kernel_rfl)) (fun _ _ _ h => h) (Or.inl ⟨by rfl, ?_⟩) ?_ ?_
      rotate_left
      · intro w'
        go_simp
        with_reducible rfl
      rotate_left
      · simp only [Act.put, List.setIfInBounds_toArray, List.set_cons_zero, List.set_cons_succ, i64_w, i32_w]
        rfl
      refine pure_ (i := 6) (N := some 44) (v := ?_) (a' := ?_) #[true, false, true, false, true, false, true, false, false, false, false, false, false] rfl rfl (any_of HT_.out (by kernel_rfl)) (fun _ _ _ h => h) (Or.inl ⟨by rfl, ?_⟩) ?_ ?_
      rotate_left
      · intro w'
        go_simp
        with_reducible rfl
      rotate_left
      · simp only [Act.put, List.setIfInBounds_toArray, List.set_cons_zero, List.set_cons_succ, i64_w, i32_w]
        rfl
      refine pure_ (i := 7) (N := some 45) (v := ?_) (a' := ?_) #[true, false, true, false, true, false, true, true, false, false, false, false, false] rfl rfl (any_of HT_.out (by kernel_rfl)) (fun _ _ _ h => h) (Or.inl ⟨by rfl, ?_⟩) ?_ ?_
      rotate_left
      · intro w'
        go_simp
        with_reducible rfl
      rotate_left
      · simp only [Act.put, List.setIfInBounds_toArray, List.set_cons_zero, List.set_cons_succ, i64_w, i32_w]
        rfl
      refine pure_ (i := 8) (N := some 46) (v := ?_) (a' := ?_) #[true, false, true, false, true, false, true, true, true, false, false, false, false] rfl rfl (any_of HT_.out (by kernel_rfl)) (fun _ _ _ h => h) (Or.inl ⟨by rfl, ?_⟩) ?_ ?_
      rotate_left
      · intro w'
        go_simp
        with_reducible rfl
      rotate_left
      · simp only [Act.put, List.setIfInBounds_toArray, List.set_cons_zero, List.set_cons_succ, i64_w, i32_w]
        rfl
      refine take_ (i := 1) (N := some 39) (v := ?_) (a' := ?_) #[true, true, true, false, true, false, true, true, true, false, false, false, false] rfl rfl (take_ofW HT_.out HW_.out (by kernel_rfl)) (fun _ _ _ h => h) (Or.inl ⟨by rfl, ?_⟩) hHeld ?_ ?_
      rotate_left
      · rintro w' ⟨s0, s1, s2⟩
        go_simp
        with_reducible rfl
      rotate_left
      · simp only [Act.put, List.setIfInBounds_toArray, List.set_cons_zero, List.set_cons_succ, i64_w, i32_w]
        rfl
      refine take_ (i := 3) (N := some 41) (v := ?_) (a' := ?_) #[true, true, true, true, true, false, true, true, true, false, false, false, false] rfl rfl (take_ofW HT_.out HW_.out (by kernel_rfl)) (fun _ _ _ h => h) (Or.inl ⟨by rfl, ?_⟩) hHeld ?_ ?_
      rotate_left
      · rintro w' ⟨s0, s1, s2⟩
        go_simp
        with_reducible rfl
      rotate_left
      · simp only [Act.put, List.setIfInBounds_toArray, List.set_cons_zero, List.set_cons_succ, i64_w, i32_w]
        rfl
      refine take_ (i := 5) (N := some 43) (v := ?_) (a' := ?_) #[true, true, true, true, true, true, true, true, true, false, false, false, false] rfl rfl (take_ofW HT_.out HW_.out (by kernel_rfl)) (fun _ _ _ h => h) (Or.inl ⟨by rfl, ?_⟩) hHeld ?_ ?_
      rotate_left
      · rintro w' ⟨s0, s1, s2⟩
        go_simp
        with_reducible rfl
      rotate_left
      · simp only [Act.put, List.setIfInBounds_toArray, List.set_cons_zero, List.set_cons_succ, i64_w, i32_w]
        rfl
      refine pure_ (i := 9) (N := some 47) (v := ?_) (a' := ?_) #[true, true, true, true, true, true, true, true, true, true, false, false, false] rfl rfl (any_of HT_.out (by kernel_rfl)) (fun _ _ _ h => h) (Or.inl ⟨by rfl, ?_⟩) ?_ ?_
      rotate_left
      · intro w'
        go_simp
        with_reducible rfl
      rotate_left
      · simp only [Act.put, List.setIfInBounds_toArray, List.set_cons_zero, List.set_cons_succ, i64_w, i32_w]
        rfl
      refine pure_ (i := 10) (N := some 48) (v := ?_) (a' := ?_) #[true, true, true, true, true, true, true, true, true, true, true, false, false] rfl rfl (any_of HT_.out (by kernel_rfl)) (fun _ _ _ h => h) (Or.inl ⟨by rfl, ?_⟩) ?_ ?_
      rotate_left
      · intro w'
        go_simp
        with_reducible rfl
      rotate_left
      · simp only [Act.put, List.setIfInBounds_toArray, List.set_cons_zero, List.set_cons_succ, i64_w, i32_w]
        rfl
      refine one_ (i := 11) (N := some 9) #[true, true, true, true, true, true, true, true, true, true, true, true, false] rfl rfl (one_of HT_.out (by kernel_rfl)) (by decide) (fun K hK => ?_)
      refine box_step ?hg (N := 9) ?hd (cs := #[.int .i64 0, .int .i64 0, .slice none 0 0]) (t := 24) ?hr ?_; (case hd => rfl); (case hg => rfl); (case hr => first | (go_simp; done) | (go_simp; rfl))
      intro gb116 hg w54 hbox hb
      replace HO_109002 := Aside0.mk (Kd.N_below (Kd.N_elderB (qN HO_109002.out) gb116 (Nat.le_of_eq hg.symm)) hb)
      replace HO115 := Aside0.mk (Kd.V_below (Kd.V_elderB (by (with_reducible repeat (first | apply Kd.V_alloc | apply Kd.V_drewN | apply Kd.V_drew)); exact HO115.out) gb116 (Nat.le_of_eq hg.symm)) hb)
      have BK116 := Aside0.mk (hbox)
      have GW116 := Aside0.mk ((by rw [hg]; exact (below_size (qS2 GE101 GE108 HB.out)) : w.heap.size ≤ gb116))
      have GE116 := Aside0.mk ((by rw [hg]; exact (below_size (qS2 GE101 GE108 HB.out)) : w.heap.size ≤ gb116))
      replace HB := Aside0.mk (below_step (qS2 GE101 GE108 HB.out) hb)
      have NB101_116 := Aside0.mk ((by rw [hg]; exact Nat.ne_of_lt (blk_lt (bq BK101.out)) : gb101 ≠ gb116))
      have NB116_101 := Aside0.mk ((by rw [hg]; exact Nat.ne_of_gt (blk_lt (bq BK101.out)) : gb116 ≠ gb101))
      replace BK101 := Aside0.mk (blk_below (bq BK101.out) hb)
      have NB108_116 := Aside0.mk ((by rw [hg]; exact Nat.ne_of_lt (blk_lt (bq BK108.out)) : gb108 ≠ gb116))
      have NB116_108 := Aside0.mk ((by rw [hg]; exact Nat.ne_of_gt (blk_lt (bq BK108.out)) : gb116 ≠ gb108))
      replace BK108 := Aside0.mk (blk_below (bq BK108.out) hb)
      clear hb hbox hg
      refine hK.out _ _ ⟨(blk_cell BK108.out 0).trans rfl, (blk_cell BK108.out 1).trans rfl, (blk_cell BK108.out 2).trans rfl⟩ (fun hHeld => ?_)
      clear hK K
      refine norm_ (a' := ?_) ?_ ?_
      rotate_left
      · show Act.put _ (some 9) _ = _
        simp only [Act.put, List.setIfInBounds_toArray, List.set_cons_zero, List.set_cons_succ, i64_w, i32_w]
        rfl
      refine one_ (i := 12) (N := none) #[true, true, true, true, true, true, true, true, true, true, true, true, true] rfl rfl (one_of HT_.out (by kernel_rfl)) (by decide) (fun K hK => ?_)
      have hs55 : w54.cell? ⟨gb116, 0, none⟩ = some (.int .i64 0) := (blk_cell BK116.out 0).trans rfl
      have hfs55 := blk_frozen BK116.out 0
      have hns55_0 := NB101_116.out
      have hns55_1 := NB108_116.out
      have hms55_0 := NB116_101.out
      have hms55_1 := NB116_108.out
      have hs56 : w54.cell? ⟨gb116, 1, none⟩ = some (.int .i64 0) := (blk_cell BK116.out 1).trans rfl
      have hfs56 := blk_frozen BK116.out 1
      have hns56_0 := NB101_116.out
      have hns56_1 := NB108_116.out
      have hms56_0 := NB116_101.out
      have hms56_1 := NB116_108.out
      have hs57 : w54.cell? ⟨gb116, 2, none⟩ = some (.slice none 0 0) := (blk_cell BK116.out 2).trans rfl
      have hfs57 := blk_frozen BK116.out 2
      have hns57_0 := NB101_116.out
      have hns57_1 := NB108_116.out
      have hms57_0 := NB116_101.out
      have hms57_1 := NB116_108.out
      refine skip_ (w1 := ?_) (by rfl) rfl ?_ ?_
      rotate_left
      · go_simp
        rfl
      refine hK.out _ _ ⟨((cell_far (p := ⟨gb116, _, none⟩) NB108_116.out _).trans (((cell_far (p := ⟨gb116, _, none⟩) NB108_116.out _).trans (((cell_far (p := ⟨gb116, _, none⟩) NB108_116.out _).trans (hHeld.1)))))), ((cell_far (p := ⟨gb116, _, none⟩) NB108_116.out _).trans (((cell_far (p := ⟨gb116, _, none⟩) NB108_116.out _).trans (((cell_far (p := ⟨gb116, _, none⟩) NB108_116.out _).trans (hHeld.2.1)))))), ((cell_far (p := ⟨gb116, _, none⟩) NB108_116.out _).trans (((cell_far (p := ⟨gb116, _, none⟩) NB108_116.out _).trans (((cell_far (p := ⟨gb116, _, none⟩) NB108_116.out _).trans (hHeld.2.2))))))⟩ (fun hHeld => ?_)
      clear hK K
      refine done_ (done_of HT_.out (by kernel_rfl)) ?_
      have hnb58 := NB116_101.out
      have hnc58 := NB101_116.out
      have hnb59 := NB116_108.out
      have hnc59 := NB108_116.out
      obtain ⟨hcz60_0, hcz60_1, hcz60_2, hfz60_0, hfz60_1, hfz60_2⟩ := blk3 BK116.out
      try go_wp2_with (first | ((with_reducible refine gate_callee (f := 15) rfl ?_); refine goesL_ (some 51) rfl rfl Try.func15 (by kernel_rfl) rfl #[.agg #[.int .i64 t103, .int .i64 t104, .slice A53 y111.length c53]] rfl (by (try simp only [List.map_toArray, List.map_cons, List.map_nil]); first | done | rfl | (simp only [List.length_drop, List.length_take]; rfl)) ?_; (with_reducible refine (smf_Print.calls k1 t103 t104 _ _ y111 t117 t118 _ ?side1 ?side2 A32.out).mono ?_); (case side1 => refine (Kd.V_reads' (e := 30) (base := w.heap.size) (ok := fun k_ => ((k_ ≠ gb101 ∧ k_ ≠ gb108) ∧ k_ ≠ gb116)) (n := y111.length) (c := c53) ?_).2.2; exact (by (with_reducible repeat (first | apply Kd.V_alloc | apply Kd.V_drewN | apply Kd.V_drew)); exact (Kd.V_mono (Kd.V_far (p := ⟨gb116, 2, none⟩) (Kd.V_far (p := ⟨gb116, 1, none⟩) (Kd.V_far (p := ⟨gb116, 0, none⟩) (Kd.V_mono HO115.out (fun k_ hk => (⟨hk, hk.2⟩ : _ ∧ k_ ≠ gb116))) (fun _ hk => hk.2) (.int .i64 t103)) (fun _ hk => hk.2) (.int .i64 t104)) (fun _ hk => hk.2) (.slice A53 y111.length c53)) (fun _ h_ => h_.1)))); (case side2 => exact (Kd.V_reads' HO115.out).2.1); rintro e w61 ⟨rfl, hb⟩; refine ⟨_, rfl, ?_⟩; replace HO_109002 := Aside0.mk (Kd.N_below (by (with_reducible repeat (first | apply Kd.N_alloc | apply Kd.N_drewN | apply Kd.N_drew)); exact (Kd.N_mono (Kd.N_far (p := ⟨gb116, 2, none⟩) (Kd.N_far (p := ⟨gb116, 1, none⟩) (Kd.N_far (p := ⟨gb116, 0, none⟩) (Kd.N_mono HO_109002.out (fun k_ hk => (⟨hk, hk.2⟩ : _ ∧ k_ ≠ gb116))) (fun _ hk => hk.2) (.int .i64 t103)) (fun _ hk => hk.2) (.int .i64 t104)) (fun _ hk => hk.2) (.slice A53 y111.length c53)) (fun _ h_ => h_.1))) hb); replace HO115 := Aside0.mk (Kd.V_below (by (with_reducible repeat (first | apply Kd.V_alloc | apply Kd.V_drewN | apply Kd.V_drew)); exact (Kd.V_mono (Kd.V_far (p := ⟨gb116, 2, none⟩) (Kd.V_far (p := ⟨gb116, 1, none⟩) (Kd.V_far (p := ⟨gb116, 0, none⟩) (Kd.V_mono HO115.out (fun k_ hk => (⟨hk, hk.2⟩ : _ ∧ k_ ≠ gb116))) (fun _ hk => hk.2) (.int .i64 t103)) (fun _ hk => hk.2) (.int .i64 t104)) (fun _ hk => hk.2) (.slice A53 y111.length c53)) (fun _ h_ => h_.1))) hb); replace BK101 := Aside0.mk (blk_below (g := gb101) (o := .cells #[.int .i64 a0_0, .int .i64 a0_1, .slice A0_2 l0_2.length c0_2] 24 (0, 0)) (by refine bq ?_; refine blk_far ?_ NB101_116.out _; refine bq ?_; refine blk_far ?_ NB101_116.out _; refine bq ?_; refine blk_far ?_ NB101_116.out _; exact bq BK101.out) hb); replace BK108 := Aside0.mk (blk_below (g := gb108) (o := .cells #[.int .i64 t103, .int .i64 t104, .slice Ao26 t105.length co26] 24 (0, 0)) (by refine bq ?_; refine blk_far ?_ NB108_116.out _; refine bq ?_; refine blk_far ?_ NB108_116.out _; refine bq ?_; refine blk_far ?_ NB108_116.out _; exact bq BK108.out) hb); replace BK116 := Aside0.mk (blk_below (g := gb116) (o := .cells #[.int .i64 t103, .int .i64 t104, .slice A53 y111.length c53] 24 (0, 0)) (by refine bq ?_; refine blk_put (cs := #[.int .i64 t103, .int .i64 t104, .slice none 0 0]) ?_ 2 _ rfl; refine bq ?_; refine blk_put (cs := #[.int .i64 t103, .int .i64 0, .slice none 0 0]) ?_ 1 _ rfl; refine bq ?_; refine blk_put (cs := #[.int .i64 0, .int .i64 0, .slice none 0 0]) ?_ 0 _ rfl; exact bq BK116.out) hb); replace HB := Aside0.mk (below_step (qS3 GE101 GE108 GE116 HB.out) hb); (try clear hb); (try clear hb2); (try clear hk); (try clear hi)))
      replace HO_109002 := Aside0.mk (Kd.N_drew HO_109002.out)
      replace HO115 := Aside0.mk (Kd.V_drew HO115.out)
      replace BK101 := Aside0.mk (blk_drew BK101.out)
      replace BK108 := Aside0.mk (blk_drew BK108.out)
      replace BK116 := Aside0.mk (blk_drew BK116.out)
      replace HB := Aside0.mk (below_drew1 HB.out)
      refine start_ (n := 26) (S := fun w' => True) (ds := []) #[false, false, false, false, false, false, false, false, false, false, false, false, false, false, false, false, false, false, false, false, false, false, false, false, false, false] (by kernel_rfl) rfl rfl trivial (fun hHeld => ?_); refine with_tabW partitalaw16_SmfJoins.tab14 partitalaw16_SmfJoins.bits14 (fun HT_ HW_ => ?_)
      generalize w61.drew = w62 at HO_109002 HO115 BK101 BK108 BK116 HB hHeld ⊢
      refine pure_ (i := 0) (N := some 54) (v := ?_) (a' := ?_) #[true, false, false, false, false, false, false, false, false, false, false, false, false, false, false, false, false, false, false, false, false, false, false, false, false, false] rfl rfl (any_of HT_.out (by kernel_rfl)) (fun _ _ _ h => h) (Or.inl ⟨by rfl, ?_⟩) ?_ ?_
      rotate_left
      · intro w'
        go_simp
        with_reducible rfl
      rotate_left
      · simp only [Act.put, List.setIfInBounds_toArray, List.set_cons_zero, List.set_cons_succ, i64_w, i32_w]
        rfl
      refine pure_ (i := 1) (N := some 55) (v := ?_) (a' := ?_) #[true, true, false, false, false, false, false, false, false, false, false, false, false, false, false, false, false, false, false, false, false, false, false, false, false, false] rfl rfl (any_of HT_.out (by kernel_rfl)) (fun _ _ _ h => h) (Or.inl ⟨by rfl, ?_⟩) ?_ ?_
      rotate_left
      · intro w'
        go_simp
        with_reducible rfl
      rotate_left
      · simp only [Act.put, List.setIfInBounds_toArray, List.set_cons_zero, List.set_cons_succ, i64_w, i32_w]
        rfl
      refine pure_ (i := 2) (N := some 56) (v := ?_) (a' := ?_) #[true, true, true, false, false, false, false, false, false, false, false, false, false, false, false, false, false, false, false, false, false, false, false, false, false, false] rfl rfl (any_of HT_.out (by kernel_rfl)) (fun _ _ _ h => h) (Or.inl ⟨by rfl, ?_⟩) ?_ ?_
      rotate_left
      · intro w'
        go_simp
        with_reducible rfl
      rotate_left
      · simp only [Act.put, List.setIfInBounds_toArray, List.set_cons_zero, List.set_cons_succ, i64_w, i32_w]
        rfl
      refine pure_ (i := 3) (N := some 57) (v := ?_) (a' := ?_) #[true, true, true, true, false, false, false, false, false, false, false, false, false, false, false, false, false, false, false, false, false, false, false, false, false, false] rfl rfl (any_of HT_.out (by kernel_rfl)) (fun _ _ _ h => h) (Or.inl ⟨by rfl, ?_⟩) ?_ ?_
      rotate_left
      · intro w'
        go_simp
        with_reducible rfl
      rotate_left
      · simp only [Act.put, List.setIfInBounds_toArray, List.set_cons_zero, List.set_cons_succ, i64_w, i32_w]
        rfl
      refine pure_ (i := 4) (N := some 58) (v := ?_) (a' := ?_) #[true, true, true, true, true, false, false, false, false, false, false, false, false, false, false, false, false, false, false, false, false, false, false, false, false, false] rfl rfl (any_of HT_.out (by kernel_rfl)) (fun _ _ _ h => h) (Or.inl ⟨by rfl, ?_⟩) ?_ ?_
      rotate_left
      · intro w'
        go_simp
        with_reducible rfl
      rotate_left
      · simp only [Act.put, List.setIfInBounds_toArray, List.set_cons_zero, List.set_cons_succ, i64_w, i32_w]
        rfl
      refine pure_ (i := 5) (N := some 59) (v := ?_) (a' := ?_) #[true, true, true, true, true, true, false, false, false, false, false, false, false, false, false, false, false, false, false, false, false, false, false, false, false, false] rfl rfl (any_of HT_.out (by kernel_rfl)) (fun _ _ _ h => h) (Or.inl ⟨by rfl, ?_⟩) ?_ ?_
      rotate_left
      · intro w'
        go_simp
        with_reducible rfl
      rotate_left
      · simp only [Act.put, List.setIfInBounds_toArray, List.set_cons_zero, List.set_cons_succ, i64_w, i32_w]
        rfl
      refine pure_ (i := 6) (N := some 60) (v := ?_) (a' := ?_) #[true, true, true, true, true, true, true, false, false, false, false, false, false, false, false, false, false, false, false, false, false, false, false, false, false, false] rfl rfl (any_of HT_.out (by kernel_rfl)) (fun _ _ _ h => h) (Or.inl ⟨by rfl, ?_⟩) ?_ ?_
      rotate_left
      · intro w'
        go_simp
        with_reducible rfl
      rotate_left
      · simp only [Act.put, List.setIfInBounds_toArray, List.set_cons_zero, List.set_cons_succ, i64_w, i32_w]
        rfl
      refine pure_ (i := 7) (N := some 61) (v := ?_) (a' := ?_) #[true, true, true, true, true, true, true, true, false, false, false, false, false, false, false, false, false, false, false, false, false, false, false, false, false, false] rfl rfl (any_of HT_.out (by kernel_rfl)) (fun _ _ _ h => h) (Or.inl ⟨by rfl, ?_⟩) ?_ ?_
      rotate_left
      · intro w'
        go_simp
        with_reducible rfl
      rotate_left
      · simp only [Act.put, List.setIfInBounds_toArray, List.set_cons_zero, List.set_cons_succ, i64_w, i32_w]
        rfl
      refine pure_ (i := 8) (N := some 62) (v := ?_) (a' := ?_) #[true, true, true, true, true, true, true, true, true, false, false, false, false, false, false, false, false, false, false, false, false, false, false, false, false, false] rfl rfl (any_of HT_.out (by kernel_rfl)) (fun _ _ _ h => h) (Or.inl ⟨by rfl, ?_⟩) ?_ ?_
      rotate_left
      · intro w'
        go_simp
        with_reducible rfl
      rotate_left
      · simp only [Act.put, List.setIfInBounds_toArray, List.set_cons_zero, List.set_cons_succ, i64_w, i32_w]
        rfl
      refine pure_ (i := 9) (N := some 63) (v := ?_) (a' := ?_) #[true, true, true, true, true, true, true, true, true, true, false, false, false, false, false, false, false, false, false, false, false, false, false, false, false, false] rfl rfl (any_of HT_.out (by kernel_rfl)) (fun _ _ _ h => h) (Or.inl ⟨by rfl, ?_⟩) ?_ ?_
      rotate_left
      · intro w'
        go_simp
        with_reducible rfl
      rotate_left
      · simp only [Act.put, List.setIfInBounds_toArray, List.set_cons_zero, List.set_cons_succ, i64_w, i32_w]
        rfl
      refine pure_ (i := 10) (N := some 64) (v := ?_) (a' := ?_) #[true, true, true, true, true, true, true, true, true, true, true, false, false, false, false, false, false, false, false, false, false, false, false, false, false, false] rfl rfl (any_of HT_.out (by kernel_rfl)) (fun _ _ _ h => h) (Or.inl ⟨by rfl, ?_⟩) ?_ ?_
      rotate_left
      · intro w'
        go_simp
        with_reducible rfl
      rotate_left
      · simp only [Act.put, List.setIfInBounds_toArray, List.set_cons_zero, List.set_cons_succ, i64_w, i32_w]
        rfl
      refine pure_ (i := 11) (N := some 65) (v := ?_) (a' := ?_) #[true, true, true, true, true, true, true, true, true, true, true, true, false, false, false, false, false, false, false, false, false, false, false, false, false, false] rfl rfl (any_of HT_.out (by kernel_rfl)) (fun _ _ _ h => h) (Or.inl ⟨by rfl, ?_⟩) ?_ ?_
      rotate_left
      · intro w'
        go_simp
        with_reducible rfl
      rotate_left
      · simp only [Act.put, List.setIfInBounds_toArray, List.set_cons_zero, List.set_cons_succ, i64_w, i32_w]
        rfl
      refine pure_ (i := 12) (N := some 66) (v := ?_) (a' := ?_) #[true, true, true, true, true, true, true, true, true, true, true, true, true, false, false, false, false, false, false, false, false, false, false, false, false, false] rfl rfl (any_of HT_.out (by kernel_rfl)) (fun _ _ _ h => h) (Or.inl ⟨by rfl, ?_⟩) ?_ ?_
      rotate_left
      · intro w'
        go_simp
        with_reducible rfl
      rotate_left
      · simp only [Act.put, List.setIfInBounds_toArray, List.set_cons_zero, List.set_cons_succ, i64_w, i32_w]
        rfl
      refine pure_ (i := 13) (N := some 67) (v := ?_) (a' := ?_) #[true, true, true, true, true, true, true, true, true, true, true, true, true, true, false, false, false, false, false, false, false, false, false, false, false, false] rfl rfl (any_of HT_.out (by kernel_rfl)) (fun _ _ _ h => h) (Or.inl ⟨by rfl, ?_⟩) ?_ ?_
      rotate_left
      · intro w'
        go_simp
        with_reducible rfl
      rotate_left
      · simp only [Act.put, List.setIfInBounds_toArray, List.set_cons_zero, List.set_cons_succ, i64_w, i32_w]
        rfl
      refine pure_ (i := 14) (N := some 68) (v := ?_) (a' := ?_) #[true, true, true, true, true, true, true, true, true, true, true, true, true, true, true, false, false, false, false, false, false, false, false, false, false, false] rfl rfl (any_of HT_.out (by kernel_rfl)) (fun _ _ _ h => h) (Or.inl ⟨by rfl, ?_⟩) ?_ ?_
      rotate_left
      · intro w'
        go_simp
        with_reducible rfl
      rotate_left
      · simp only [Act.put, List.setIfInBounds_toArray, List.set_cons_zero, List.set_cons_succ, i64_w, i32_w]
        rfl
      refine pure_ (i := 15) (N := some 69) (v := ?_) (a' := ?_) #[true, true, true, true, true, true, true, true, true, true, true, true, true, true, true, true, false, false, false, false, false, false, false, false, false, false] rfl rfl (any_of HT_.out (by kernel_rfl)) (fun _ _ _ h => h) (Or.inl ⟨by rfl, ?_⟩) ?_ ?_
      rotate_left
      · intro w'
        go_simp
        with_reducible rfl
      rotate_left
      · simp only [Act.put, List.setIfInBounds_toArray, List.set_cons_zero, List.set_cons_succ, i64_w, i32_w]
        rfl
      refine pure_ (i := 16) (N := some 70) (v := ?_) (a' := ?_) #[true, true, true, true, true, true, true, true, true, true, true, true, true, true, true, true, true, false, false, false, false, false, false, false, false, false] rfl rfl (any_of HT_.out (by kernel_rfl)) (fun _ _ _ h => h) (Or.inl ⟨by rfl, ?_⟩) ?_ ?_
      rotate_left
      · intro w'
        go_simp
        with_reducible rfl
      rotate_left
      · simp only [Act.put, List.setIfInBounds_toArray, List.set_cons_zero, List.set_cons_succ, i64_w, i32_w]
        rfl
      refine pure_ (i := 17) (N := some 71) (v := ?_) (a' := ?_) #[true, true, true, true, true, true, true, true, true, true, true, true, true, true, true, true, true, true, false, false, false, false, false, false, false, false] rfl rfl (any_of HT_.out (by kernel_rfl)) (fun _ _ _ h => h) (Or.inl ⟨by rfl, ?_⟩) ?_ ?_
      rotate_left
      · intro w'
        go_simp
        with_reducible rfl
      rotate_left
      · simp only [Act.put, List.setIfInBounds_toArray, List.set_cons_zero, List.set_cons_succ, i64_w, i32_w]
        rfl
      refine pure_ (i := 18) (N := some 72) (v := ?_) (a' := ?_) #[true, true, true, true, true, true, true, true, true, true, true, true, true, true, true, true, true, true, true, false, false, false, false, false, false, false] rfl rfl (any_of HT_.out (by kernel_rfl)) (fun _ _ _ h => h) (Or.inl ⟨by rfl, ?_⟩) ?_ ?_
      rotate_left
      · intro w'
        go_simp
        with_reducible rfl
      rotate_left
      · simp only [Act.put, List.setIfInBounds_toArray, List.set_cons_zero, List.set_cons_succ, i64_w, i32_w]
        rfl
      refine pure_ (i := 19) (N := some 73) (v := ?_) (a' := ?_) #[true, true, true, true, true, true, true, true, true, true, true, true, true, true, true, true, true, true, true, true, false, false, false, false, false, false] rfl rfl (any_of HT_.out (by kernel_rfl)) (fun _ _ _ h => h) (Or.inl ⟨by rfl, ?_⟩) ?_ ?_
      rotate_left
      · intro w'
        go_simp
        with_reducible rfl
      rotate_left
      · simp only [Act.put, List.setIfInBounds_toArray, List.set_cons_zero, List.set_cons_succ, i64_w, i32_w]
        rfl
      refine pure_ (i := 20) (N := some 74) (v := ?_) (a' := ?_) #[true, true, true, true, true, true, true, true, true, true, true, true, true, true, true, true, true, true, true, true, true, false, false, false, false, false] rfl rfl (any_of HT_.out (by kernel_rfl)) (fun _ _ _ h => h) (Or.inl ⟨by rfl, ?_⟩) ?_ ?_
      rotate_left
      · intro w'
        go_simp
        with_reducible rfl
      rotate_left
      · simp only [Act.put, List.setIfInBounds_toArray, List.set_cons_zero, List.set_cons_succ, i64_w, i32_w]
        rfl
      refine pure_ (i := 21) (N := some 75) (v := ?_) (a' := ?_) #[true, true, true, true, true, true, true, true, true, true, true, true, true, true, true, true, true, true, true, true, true, true, false, false, false, false] rfl rfl (any_of HT_.out (by kernel_rfl)) (fun _ _ _ h => h) (Or.inl ⟨by rfl, ?_⟩) ?_ ?_
      rotate_left
      · intro w'
        go_simp
        with_reducible rfl
      rotate_left
      · simp only [Act.put, List.setIfInBounds_toArray, List.set_cons_zero, List.set_cons_succ, i64_w, i32_w]
        rfl
      refine pure_ (i := 22) (N := some 76) (v := ?_) (a' := ?_) #[true, true, true, true, true, true, true, true, true, true, true, true, true, true, true, true, true, true, true, true, true, true, true, false, false, false] rfl rfl (any_of HT_.out (by kernel_rfl)) (fun _ _ _ h => h) (Or.inl ⟨by rfl, ?_⟩) ?_ ?_
      rotate_left
      · intro w'
        go_simp
        with_reducible rfl
      rotate_left
      · simp only [Act.put, List.setIfInBounds_toArray, List.set_cons_zero, List.set_cons_succ, i64_w, i32_w]
        rfl
      refine pure_ (i := 23) (N := some 77) (v := ?_) (a' := ?_) #[true, true, true, true, true, true, true, true, true, true, true, true, true, true, true, true, true, true, true, true, true, true, true, true, false, false] rfl rfl (any_of HT_.out (by kernel_rfl)) (fun _ _ _ h => h) (Or.inl ⟨by rfl, ?_⟩) ?_ ?_
      rotate_left
      · intro w'
        go_simp
        with_reducible rfl
      rotate_left
      · simp only [Act.put, List.setIfInBounds_toArray, List.set_cons_zero, List.set_cons_succ, i64_w, i32_w]
        rfl
      refine pure_ (i := 24) (N := some 78) (v := ?_) (a' := ?_) #[true, true, true, true, true, true, true, true, true, true, true, true, true, true, true, true, true, true, true, true, true, true, true, true, true, false] rfl rfl (any_of HT_.out (by kernel_rfl)) (fun _ _ _ h => h) (Or.inl ⟨by rfl, ?_⟩) ?_ ?_
      rotate_left
      · intro w'
        go_simp
        with_reducible rfl
      rotate_left
      · simp only [Act.put, List.setIfInBounds_toArray, List.set_cons_zero, List.set_cons_succ, i64_w, i32_w]
        rfl
      refine pure_ (i := 25) (N := some 79) (v := ?_) (a' := ?_) #[true, true, true, true, true, true, true, true, true, true, true, true, true, true, true, true, true, true, true, true, true, true, true, true, true, true] rfl rfl (any_of HT_.out (by kernel_rfl)) (fun _ _ _ h => h) (Or.inl ⟨by rfl, ?_⟩) ?_ ?_
      rotate_left
      · intro w'
        go_simp
        with_reducible rfl
      rotate_left
      · simp only [Act.put, List.setIfInBounds_toArray, List.set_cons_zero, List.set_cons_succ, i64_w, i32_w]
        rfl
      refine done_ (done_of HT_.out (by kernel_rfl)) ?_
      try go_wp2
      go_roundg k1
      case measure => have := HK1.out; omega
      case rel => exact ⟨(x7_1 ++ (t117.extract 14 t117.size)), (wrap64 (x8_1 + 1)), (by first | rfl | (simp; done) | (simp [*]; done)), (by first | rfl | (simp; done) | (simp [*]; done)), H', ⟨by have := HK1.out; omega⟩, ⟨by (with_reducible repeat (first | apply Kd.N_alloc | apply Kd.N_drewN | apply Kd.N_drew)); exact Kd.N_mono HO_109002.out (fun _ hk => ⟨hk.1.1, hk.1.2⟩)⟩, ⟨bq BK101.out⟩, ⟨bq BK108.out⟩, ⟨qS3 GE101 GE108 GE116 HB.out⟩⟩
end Go.Proofs.Ytdmnknhlibaaoaa.M
namespace Go.Proofs.Ytdmnknhlibaaoaa.Z
open Go.RowKit Go.Proofs.YtdmnknhlibaaoaaW.PrintWords Go.Proofs.YtdmnknhlibaaoaaW.PrintLast Go.Proofs.YtdmnknhlibaaoaaW.PrintMore Go.Proofs.Ytdmnknhlibaaoaa.M
set_option linter.unusedVariables false
theorem fr_one {f d : Int} {ts : List (List Msg)} (h : FR f d ts) {l : List Msg} (hl : l ∈ ts) : FR f d [l] := by
  obtain ⟨⟨h1, h2, h3, h4, h5, h6⟩, h7, h8⟩ := h
  refine ⟨⟨h1, h2, h3, Nat.le_refl 1, by show 1 ≤ 16; decide, fun _ => rfl⟩, fun x hx => ?_, ?_⟩
  · rw [List.mem_singleton.1 hx]; exact h7 l hl
  · have := totT_mem hl
    have h9 : totT [l] = tot l + 8 := rfl
    have h10 : ∀ {ts : List (List Msg)}, l ∈ ts → tot l + 8 ≤ totT ts := by
      intro ts
      induction ts with
      | nil => intro h; cases h
      | cons x r ih =>
        intro h
        rw [totT]
        rcases List.mem_cons.1 h with rfl | h
        · omega
        · have := ih h; omega
    have := h10 hl
    omega
theorem ext_left {s : ByteArray} {a r : List Int} (h : bytesOf s = a ++ r) {n : Nat} (hn : a.length = n) : bytesOf (s.extract 0 n) = a := by
  rw [bytesOf_extract, h, List.drop_zero, Nat.sub_zero, ← hn, List.take_left]
theorem ext_mid {s : ByteArray} {a b r : List Int} (h : bytesOf s = a ++ (b ++ r)) {n m : Nat} (hn : a.length = n) (hm : n + b.length = m) : bytesOf (s.extract n m) = b := by
  rw [bytesOf_extract, h, ← hn, List.drop_left, ← hm, hn, Nat.add_sub_cancel_left, List.take_left]
theorem ext_right {s : ByteArray} {a r : List Int} (h : bytesOf s = a ++ r) {n : Nat} (hn : a.length = n) : bytesOf (s.extract n s.size) = r := by
  have hl := congrArg List.length h
  rw [bytesOf_length, List.length_append] at hl
  rw [bytesOf_extract, h, ← hn, List.drop_left, List.take_of_length_le (by omega)]
theorem ext_eq {s t : ByteArray} {i j i' j' : Nat} {b : List Int} (h : bytesOf (s.extract i j) = b) (k : bytesOf (t.extract i' j') = b) : (s.extract i j).toList = (t.extract i' j').toList := by
  rw [toList_eq]
  exact bytesOf_inj (h.trans k.symm)
theorem size_of_bytes {s : ByteArray} {b : List Int} (h : bytesOf s = b) : s.size = b.length := by rw [← h, bytesOf_length]
theorem joins_l0 {f d : Int} {ts : List (List Msg)} (h : FR f d ts) : ∀ (j i : Nat) (acc : ByteArray), i + j = ts.length → bytesOf acc = headB f d ts.length ++ trksB (ts.take i) →
    Ev (fun k => partitalaw16_SmfJoins.l0 k true (bytesF f d ts) acc (i : Int) f d ts) true
  | 0, i, acc, hj, ha => by
    refine Ev.step (fun k => by rw [partitalaw16_SmfJoins.l0]) ?_
    refine Ev.no (by omega) (Ev.yes rfl (Ev.ok (Ev.now _) ?_))
    rw [beq_iff_eq, toList_eq]
    refine bytesOf_inj ?_
    rw [ha, h.bytes, List.take_of_length_le (by omega)]
    rfl
  | j + 1, i, acc, hj, ha => by
    have hd := rdL_drop ts i (by omega)
    have hm := rdL_mem ts i (by omega)
    generalize hl : rd_L3 ts (i : Int) = l at *
    have h1 := fr_one h hm
    have hn16 : ts.length ≤ 16 := h.head.2.2.2.2.1
    have ew : wrap64 ((i : Int) + 1) = ((i + 1 : Nat) : Int) := by rw [w64 (by omega) (by omega)]; omega
    have hsl : (ts.take (((i + 1 : Nat) : Int)).toNat).drop ((i : Int)).toNat = [l] := by
      rw [Int.toNat_natCast, Int.toNat_natCast, List.drop_take, hd, Nat.add_sub_cancel_left]
      rfl
    have hb1 : bytesOf (bytesF f d [l]) = nameL ++ (two f ++ (two 1 ++ (two d ++ trkB l))) := by
      rw [h1.bytes]
      show (nameL ++ (two f ++ (two 1 ++ two d))) ++ (trkB l ++ []) = _
      simp only [List.append_assoc, List.append_nil]
    have hb2 : bytesOf (bytesF f d ts) = nameL ++ (two f ++ (two ts.length ++ (two d ++ trksB ts))) := by
      rw [h.bytes]
      show (nameL ++ (two f ++ (two ts.length ++ two d))) ++ trksB ts = _
      simp only [List.append_assoc]
    have hs1 : (bytesF f d [l]).size = 14 + (trkB l).length := by rw [size_of_bytes hb1]; simp only [List.length_append]; have : nameL.length = 8 := rfl; have : ∀ n, (two n).length = 2 := fun _ => rfl; simp only [*]; omega
    have hs2 : 14 ≤ (bytesF f d ts).size := by rw [h.size]; unfold fileB; rw [List.length_append, headB_len]; omega
    have q1 : bytesOf ((bytesF f d [l]).extract 0 10) = nameL ++ two f := ext_left (r := two 1 ++ (two d ++ trkB l)) (by rw [hb1]; simp only [List.append_assoc]) rfl
    have q2 : bytesOf ((bytesF f d ts).extract 0 10) = nameL ++ two f := ext_left (r := two ts.length ++ (two d ++ trksB ts)) (by rw [hb2]; simp only [List.append_assoc]) rfl
    have q3 : bytesOf ((bytesF f d [l]).extract 10 12) = two 1 := ext_mid (a := nameL ++ two f) (r := two d ++ trkB l) (by rw [hb1]; simp only [List.append_assoc]) rfl rfl
    have q4 : bytesOf ((bytesF f d [l]).extract 12 14) = two d := ext_mid (a := nameL ++ (two f ++ two 1)) (r := trkB l) (by rw [hb1]; simp only [List.append_assoc]) rfl rfl
    have q5 : bytesOf ((bytesF f d ts).extract 12 14) = two d := ext_mid (a := nameL ++ (two f ++ two ts.length)) (r := trksB ts) (by rw [hb2]; simp only [List.append_assoc]) rfl rfl
    have q6 : bytesOf ((bytesF f d [l]).extract 14 (bytesF f d [l]).size) = trkB l := ext_right (a := nameL ++ (two f ++ (two 1 ++ two d))) (by rw [hb1]; simp only [List.append_assoc]) rfl
    have hz6 := size_of_bytes q6
    have hza := size_of_bytes ha
    have hzl : (trksB (ts.take i)).length ≤ 99000 := by
      have h2 : ∀ (ts : List (List Msg)) (i : Nat), totT (ts.take i) ≤ totT ts := by
        intro ts
        induction ts with
        | nil => intro i; rw [List.take_nil]; exact Nat.le_refl _
        | cons x r ih =>
          intro i
          cases i with
          | zero => exact Nat.zero_le _
          | succ i => rw [List.take_succ_cons, totT, totT]; have := ih i; omega
      have := h2 ts i
      have := trksB_len (ts.take i)
      have := h.sm
      omega
    have hzt : (trkB l).length ≤ 99008 := by
      have := trkB_len l
      have := enc_tot l 0
      have := totT_mem hm
      have := h.sm
      omega
    rw [List.length_append, headB_len] at hza
    refine Ev.step (fun k => by rw [partitalaw16_SmfJoins.l0]) ?_
    refine Ev.yes (by omega) (Ev.yes (by omega) (Ev.yes (by omega) (Ev.yes (by omega) ?_)))
    rw [ew, hsl]
    refine Ev.bind h1.print ?_
    dsimp only
    refine Ev.yes rfl (Ev.no (by omega) (Ev.yes (by decide) (Ev.yes (by omega) (Ev.yes (by omega) (Ev.yes (ext_eq q1 q2) (Ev.yes (by decide) (Ev.yes (by omega) (Ev.yes ?_ (Ev.yes (by decide) (Ev.yes (by omega) (Ev.yes (by omega) (Ev.yes (ext_eq q4 q5) (Ev.yes (by omega) ?_)))))))))))))
    · have e1 : ([0, 1] : List UInt8) = (⟨#[0, 1]⟩ : ByteArray).toList := by rw [Lib.toList_data]
      rw [e1, toList_eq]
      exact bytesOf_inj q3
    · refine joins_l0 h j (i + 1) _ (by omega) ?_
      rw [bytesOf_append, ha, q6, List.append_assoc]
      refine congrArg (fun z => headB f d ts.length ++ z) ?_
      have h3 : ts.take (i + 1) = ts.take i ++ [l] := by
        have h4 : i < ts.length := by omega
        have h5 : ts[i] = l := by
          have := hd
          rw [List.drop_eq_getElem_cons h4] at this
          injection this
        rw [List.take_add_one, List.getElem?_eq_getElem h4, h5]
        rfl
      have h6 : ∀ a b : List (List Msg), trksB (a ++ b) = trksB a ++ trksB b := by
        intro a
        induction a with
        | nil => intro b; rfl
        | cons x r ih => intro b; rw [List.cons_append, trksB, trksB, ih, List.append_assoc]
      rw [h3, h6]
      show _ = _ ++ (trkB l ++ [])
      rw [List.append_nil]
theorem smfJoins {f d : Int} {L : List (List Msg)} (hf : I64 f) (hd : I64 d) (hL : Raws L) : Ev (fun k => partitalaw16_SmfJoins.f k f d L) true := by
  obtain ⟨f1, d1, a, e1, g1⟩ := file_ev hf hd hL
  have h1 := gf_fr g1
  have hs2 : 14 ≤ (bytesF f1 d1 a).size := by rw [h1.size]; unfold fileB; rw [List.length_append, headB_len]; omega
  refine Ev.bind examples_ev (Ev.yes rfl (Ev.bind e1 ?_))
  dsimp only
  refine Ev.bind h1.print ?_
  dsimp only
  refine Ev.yes rfl (Ev.no (by omega) (Ev.yes (by decide) (Ev.yes (by omega) ?_)))
  refine joins_l0 h1 a.length 0 _ (by omega) ?_
  have := ext_left (s := bytesF f1 d1 a) (a := headB f1 d1 a.length) (r := trksB a) h1.bytes (n := 14) (headB_len _ _ _)
  rw [this, List.take_zero]
  show _ = _ ++ []
  rw [List.append_nil]
end Go.Proofs.Ytdmnknhlibaaoaa.Z
