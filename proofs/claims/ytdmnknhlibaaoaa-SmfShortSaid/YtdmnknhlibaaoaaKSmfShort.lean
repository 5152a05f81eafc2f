/- What the statement SmfShort alone needs: its printed function, and its pure part (part 1). -/
import Derived.Test.YtdmnknhlibaaoaaC1
import Derived.Test.YtdmnknhlibaaoaaC3
import Derived.Test.YtdmnknhlibaaoaaC5
import Derived.Test.YtdmnknhlibaaoaaC4
namespace Go.Proofs.Ytdmnknhlibaaoaa.M
open Go.RowKit Go.Proofs.YtdmnknhlibaaoaaW.PrintWords Go.Proofs.YtdmnknhlibaaoaaW.PrintLast Go.Proofs.YtdmnknhlibaaoaaW.PrintMore
attribute [local go_sem] max2_int min2_int max_two min_two max_three min_three max_four min_four
set_option linter.unusedVariables false
set_option linter.unusedSimpArgs false
def partitalaw16_SmfShort.f (k : Nat) (a0_0 : Int) (a0_1 : Int) (l0_2 : List (List (S28))) (a1 : Int) : Option (Bool) := (partitalaw16_examples.f k).bind fun t102 => (if t102 = true then ((partitalaw16_File.f k a0_0 a0_1 l0_2).bind fun bt103 => ((smf_Print.f k bt103.1 bt103.2.1 bt103.2.2).bind fun bt109 => (if bt109.2 = 0 then (if (bt109.1.size : Int) = 0 then (some false) else ((partitalaw16_pick.f a1 (bt109.1.size : Int)).bind fun t111 => (if 0 ≤ t111 then (if t111 ≤ (bt109.1.size : Int) then ((smf_Parse.f k (bt109.1.extract 0 (t111 : Int).toNat)).bind fun bt112 => (if bt112.2.2.2.2 = 152 then (if bt112.2.2.2.1 = t111 then ((smf_Same.f k bt112.1 bt112.2.1 bt112.2.2.1 0 0 ([] : List (List (S28)))).bind fun t120 => (some t120)) else (none)) else (none))) else (none)) else (none)))) else (none)))) else (some false))
theorem partitalaw16_SmfShort.mono : ∀ a0 a1 a2 a3 k, LeO (partitalaw16_SmfShort.f k a0 a1 a2 a3) (partitalaw16_SmfShort.f (k + 1) a0 a1 a2 a3) := by
  intro a0 a1 a2 a3 k
  unfold partitalaw16_SmfShort.f
  repeat' first
      | (with_reducible exact partitalaw16_File.mono _ _ _ _)
      | (with_reducible exact partitalaw16_examples.mono _)
      | (with_reducible exact smf_Parse.mono _ _)
      | (with_reducible exact smf_Print.mono _ _ _ _)
      | (with_reducible exact smf_Same.mono _ _ _ _ _ _ _)
      | (with_reducible exact LeO.refl _)
      | (with_reducible exact LeO.none _)
      | (with_reducible refine LeO.ite ?_ ?_)
      | (with_reducible refine LeO.bind ?_ (fun _ => ?_))
      | exact partitalaw16_File.mono _ _ _ _
      | exact partitalaw16_examples.mono _
      | exact smf_Parse.mono _ _
      | exact smf_Print.mono _ _ _ _
      | exact smf_Same.mono _ _ _ _ _ _ _
      | exact LeO.none _
      | refine LeO.ite ?_ ?_
      | refine LeO.bind ?_ (fun _ => ?_)
set_option maxHeartbeats 8000000 in
set_option maxRecDepth 100000 in
theorem partitalaw16_SmfShort.calls (k : Nat) (a0_0 : Int) (a0_1 : Int) (A0_2 : Option Addr) (c0_2 : Nat) (l0_2 : List (List (S28))) (a1 : Int) (r : Bool) (w : World) (hr0_2 : Kd.C (Kd.slice 28 k28) w A0_2 l0_2.length l0_2) (hc0_2 : l0_2.length ≤ c0_2) (h : partitalaw16_SmfShort.f k a0_0 a0_1 l0_2 a1 = some r) :
    Calls Try.prog 7 #[.agg #[.int .i64 a0_0, .int .i64 a0_1, .slice A0_2 l0_2.length c0_2], .int .i64 a1] w fun e w' => e = .returned (.bool r) ∧ Below w.heap.size w w' := by
  have hu24 := Try.underlying24
  have HR0_2 := Aside0.mk hr0_2
  have HC0_2 := Aside0.mk hc0_2
  clear hr0_2 hc0_2
  have HB := Aside0.mk (Below.refl w.heap.size w)
  have H : ((partitalaw16_examples.f k).bind fun t102 => (if t102 = true then ((partitalaw16_File.f k a0_0 a0_1 l0_2).bind fun bt103 => ((smf_Print.f k bt103.1 bt103.2.1 bt103.2.2).bind fun bt109 => (if bt109.2 = 0 then (if (bt109.1.size : Int) = 0 then (some false) else ((partitalaw16_pick.f a1 (bt109.1.size : Int)).bind fun t111 => (if 0 ≤ t111 then (if t111 ≤ (bt109.1.size : Int) then ((smf_Parse.f k (bt109.1.extract 0 (t111 : Int).toNat)).bind fun bt112 => (if bt112.2.2.2.2 = 152 then (if bt112.2.2.2.1 = t111 then ((smf_Same.f k bt112.1 bt112.2.1 bt112.2.2.1 0 0 ([] : List (List (S28)))).bind fun t120 => (some t120)) else (none)) else (none))) else (none)) else (none)))) else (none)))) else (some false))) = some r := h
  clear h
  replace H := Option.bind_eq_some_iff.mp H
  obtain ⟨t102, A30, H⟩ := H
  replace H : (if t102 = true then ((partitalaw16_File.f k a0_0 a0_1 l0_2).bind fun bt103 => ((smf_Print.f k bt103.1 bt103.2.1 bt103.2.2).bind fun bt109 => (if bt109.2 = 0 then (if (bt109.1.size : Int) = 0 then (some false) else ((partitalaw16_pick.f a1 (bt109.1.size : Int)).bind fun t111 => (if 0 ≤ t111 then (if t111 ≤ (bt109.1.size : Int) then ((smf_Parse.f k (bt109.1.extract 0 (t111 : Int).toNat)).bind fun bt112 => (if bt112.2.2.2.2 = 152 then (if bt112.2.2.2.1 = t111 then ((smf_Same.f k bt112.1 bt112.2.1 bt112.2.2.1 0 0 ([] : List (List (S28)))).bind fun t120 => (some t120)) else (none)) else (none))) else (none)) else (none)))) else (none)))) else (some false)) = some r := H
  have A3 := Aside0.mk A30
  clear A30
  by_cases c4 : t102 = true
  rotate_left
  · replace c4 := Bool.eq_false_iff.mpr c4
    subst c4
    have H1 : (some false) = some r := by rw [if_neg (show ¬ (false = true) by decide)] at H; exact H
    clear H
    have H := H1
    clear H1
    obtain rfl := Option.some.inj H
    go_enter Try.func7, Try.ntmps7
    go_wp2_with (first | ((with_reducible refine gate_dst (N := 2) rfl ?_); (try (refine gate_guard (by rfl) ?_; dsimp only)); refine box_event ?hg (N := 2) ?hd (cs := #[.int .i64 a0_0, .int .i64 a0_1, .slice A0_2 l0_2.length c0_2]) (t := 24) ?hr ?_; (case hd => rfl); (case hg => rfl); (case hr => first | (go_simp; done) | (go_simp; rfl)); intro gb101 hg w41 hbox hb; have BK101 := Aside0.mk (hbox); have GW101 := Aside0.mk ((by rw [hg]; exact (below_size (qB HB.out)) : w.heap.size ≤ gb101)); have GE101 := Aside0.mk ((by rw [hg]; exact (below_size (qB HB.out)) : w.heap.size ≤ gb101)); replace HB := Aside0.mk (below_step (qB HB.out) hb); clear hb hbox hg) | ((with_reducible refine gate_callee (f := 11) rfl ?_); refine goesL_ (some 13) rfl rfl Try.func11 (by kernel_rfl) rfl #[] rfl (by (try simp only [List.map_toArray, List.map_cons, List.map_nil]); first | done | rfl | (simp only [List.length_drop, List.length_take]; rfl)) ?_; (with_reducible refine (partitalaw16_examples.calls k  false _ A3.out).mono ?_); rintro e w42 ⟨rfl, hb⟩; refine ⟨_, rfl, ?_⟩; replace BK101 := Aside0.mk (blk_below (bq BK101.out) hb); replace HB := Aside0.mk (below_step (qS1 GE101 HB.out) hb); (try clear hb); (try clear hb2); (try clear hk); (try clear hi)))
    go_ret
    exact ⟨by first | rfl | (simp [errW_none, errW_some] <;> rfl) | (simp [*, errW_none, errW_some] <;> rfl), qS1 GE101 HB.out⟩
  subst c4
  have H1 : ((partitalaw16_File.f k a0_0 a0_1 l0_2).bind fun bt103 => ((smf_Print.f k bt103.1 bt103.2.1 bt103.2.2).bind fun bt109 => (if bt109.2 = 0 then (if (bt109.1.size : Int) = 0 then (some false) else ((partitalaw16_pick.f a1 (bt109.1.size : Int)).bind fun t111 => (if 0 ≤ t111 then (if t111 ≤ (bt109.1.size : Int) then ((smf_Parse.f k (bt109.1.extract 0 (t111 : Int).toNat)).bind fun bt112 => (if bt112.2.2.2.2 = 152 then (if bt112.2.2.2.1 = t111 then ((smf_Same.f k bt112.1 bt112.2.1 bt112.2.2.1 0 0 ([] : List (List (S28)))).bind fun t120 => (some t120)) else (none)) else (none))) else (none)) else (none)))) else (none)))) = some r := by rw [if_pos rfl] at H; exact H
  clear H
  have H := H1
  clear H1
  replace H := Option.bind_eq_some_iff.mp H
  obtain ⟨⟨t103, t104, t105⟩, A50, H⟩ := H
  replace H : ((smf_Print.f k t103 t104 t105).bind fun bt109 => (if bt109.2 = 0 then (if (bt109.1.size : Int) = 0 then (some false) else ((partitalaw16_pick.f a1 (bt109.1.size : Int)).bind fun t111 => (if 0 ≤ t111 then (if t111 ≤ (bt109.1.size : Int) then ((smf_Parse.f k (bt109.1.extract 0 (t111 : Int).toNat)).bind fun bt112 => (if bt112.2.2.2.2 = 152 then (if bt112.2.2.2.1 = t111 then ((smf_Same.f k bt112.1 bt112.2.1 bt112.2.2.1 0 0 ([] : List (List (S28)))).bind fun t120 => (some t120)) else (none)) else (none))) else (none)) else (none)))) else (none))) = some r := H
  have A5 := Aside0.mk A50
  clear A50
  replace H := Option.bind_eq_some_iff.mp H
  obtain ⟨⟨t109, t110⟩, A60, H⟩ := H
  replace H : (if t110 = 0 then (if (t109.size : Int) = 0 then (some false) else ((partitalaw16_pick.f a1 (t109.size : Int)).bind fun t111 => (if 0 ≤ t111 then (if t111 ≤ (t109.size : Int) then ((smf_Parse.f k (t109.extract 0 (t111 : Int).toNat)).bind fun bt112 => (if bt112.2.2.2.2 = 152 then (if bt112.2.2.2.1 = t111 then ((smf_Same.f k bt112.1 bt112.2.1 bt112.2.2.1 0 0 ([] : List (List (S28)))).bind fun t120 => (some t120)) else (none)) else (none))) else (none)) else (none)))) else (none)) = some r := H
  have A6 := Aside0.mk A60
  clear A60
  by_cases c7 : t110 = 0
  rotate_left
  · rw [if_neg c7] at H
    exact absurd H (by simp)
  rw [if_pos c7] at H
  have c7b0 : (t110 == 0) = true := beq_iff_eq.mpr c7
  have c7b1 : (t110 != 0) = false := bne_eq_false_iff_eq.mpr c7
  clear c7
  by_cases c8 : (t109.size : Int) = 0
  · rw [if_pos c8] at H
    have c8b0 : ((t109.size : Int) == 0) = true := beq_iff_eq.mpr c8
    have c8b1 : ((t109.size : Int) != 0) = false := bne_eq_false_iff_eq.mpr c8
    clear c8
    obtain rfl := Option.some.inj H
    go_enter Try.func7, Try.ntmps7
    go_wp2_with (first | ((with_reducible refine gate_dst (N := 2) rfl ?_); (try (refine gate_guard (by rfl) ?_; dsimp only)); refine box_event ?hg (N := 2) ?hd (cs := #[.int .i64 a0_0, .int .i64 a0_1, .slice A0_2 l0_2.length c0_2]) (t := 24) ?hr ?_; (case hd => rfl); (case hg => rfl); (case hr => first | (go_simp; done) | (go_simp; rfl)); intro gb101 hg w9 hbox hb; have BK101 := Aside0.mk (hbox); have GW101 := Aside0.mk ((by rw [hg]; exact (below_size (qB HB.out)) : w.heap.size ≤ gb101)); have GE101 := Aside0.mk ((by rw [hg]; exact (below_size (qB HB.out)) : w.heap.size ≤ gb101)); replace HB := Aside0.mk (below_step (qB HB.out) hb); clear hb hbox hg) | ((with_reducible refine gate_callee (f := 11) rfl ?_); refine goesL_ (some 13) rfl rfl Try.func11 (by kernel_rfl) rfl #[] rfl (by (try simp only [List.map_toArray, List.map_cons, List.map_nil]); first | done | rfl | (simp only [List.length_drop, List.length_take]; rfl)) ?_; (with_reducible refine (partitalaw16_examples.calls k  true _ A3.out).mono ?_); rintro e w10 ⟨rfl, hb⟩; refine ⟨_, rfl, ?_⟩; replace BK101 := Aside0.mk (blk_below (bq BK101.out) hb); replace HB := Aside0.mk (below_step (qS1 GE101 HB.out) hb); (try clear hb); (try clear hb2); (try clear hk); (try clear hi); obtain ⟨hcz11_0, hcz11_1, hcz11_2, hfz11_0, hfz11_1, hfz11_2⟩ := blk3 BK101.out) | ((with_reducible refine gate_callee (f := 12) rfl ?_); refine goesL_ (some 17) rfl rfl Try.func12 (by kernel_rfl) rfl #[.agg #[.int .i64 a0_0, .int .i64 a0_1, .slice A0_2 l0_2.length c0_2]] rfl (by (try simp only [List.map_toArray, List.map_cons, List.map_nil]); first | done | rfl | (simp only [List.length_drop, List.length_take]; rfl)) ?_; (with_reducible refine (partitalaw16_File.calls k a0_0 a0_1 _ _ l0_2 t103 t104 t105 _ ?side1 ?side2 A5.out).mono ?_); (case side1 => repeat (first | exact (Kd.C_below HR0_2.out HB.out) | (with_reducible refine Kd.C_alloc ?_ _) | (with_reducible refine Kd.C_drewN ?_ _) | (with_reducible refine Kd.C_drew ?_))); (case side2 => exact HC0_2.out); rintro e w12 ⟨v106, rfl, ho0, hb⟩; refine ⟨_, rfl, ?_⟩; have HO107 := Aside0.mk (Kd.N_lower (Kd.N_mono (ok' := fun k_ => k_ ≠ gb101) ho0 (fun k_ hk_ => (Kd.freshB (bq BK101.out) k_ hk_))) (below_size (qS1 GE101 HB.out))); replace BK101 := Aside0.mk (blk_below (bq BK101.out) hb); replace HB := Aside0.mk (below_step (qS1 GE101 HB.out) hb); (try clear hb); (try clear hb2); (try clear hk); (try clear hi); (try clear ho0)) | ((with_reducible refine gate_dst (N := 6) rfl ?_); (try (refine gate_guard (by rfl) ?_; dsimp only)); refine box_event ?hg (N := 6) ?hd (cs := #[.int .i64 0, .int .i64 0, .slice none 0 0]) (t := 24) ?hr ?_; (case hd => rfl); (case hg => rfl); (case hr => first | (go_simp; done) | (go_simp; rfl)); intro gb108 hg w13 hbox hb; replace HO107 := Aside0.mk (Kd.N_below (Kd.N_elderB (qN HO107.out) gb108 (Nat.le_of_eq hg.symm)) hb); have BK108 := Aside0.mk (hbox); have GW108 := Aside0.mk ((by rw [hg]; exact (below_size (qS1 GE101 HB.out)) : w.heap.size ≤ gb108)); have GE108 := Aside0.mk ((by rw [hg]; exact (below_size (qS1 GE101 HB.out)) : w.heap.size ≤ gb108)); replace HB := Aside0.mk (below_step (qS1 GE101 HB.out) hb); have NB101_108 := Aside0.mk ((by rw [hg]; exact Nat.ne_of_lt (blk_lt (bq BK101.out)) : gb101 ≠ gb108)); have NB108_101 := Aside0.mk ((by rw [hg]; exact Nat.ne_of_gt (blk_lt (bq BK101.out)) : gb108 ≠ gb101)); replace BK101 := Aside0.mk (blk_below (bq BK101.out) hb); clear hb hbox hg; have hnb14 := NB108_101.out; have hnc14 := NB101_108.out; obtain ⟨hcz15_0, hcz15_1, hcz15_2, hfz15_0, hfz15_1, hfz15_2⟩ := blk3 BK108.out; obtain ⟨Ao16, co16, eo16⟩ := Kd.N_slice HO107.out; subst eo16) | ((with_reducible refine gate_callee (f := 15) rfl ?_); refine goesL_ (some 20) rfl rfl Try.func15 (by kernel_rfl) rfl #[.agg #[.int .i64 t103, .int .i64 t104, .slice Ao16 t105.length co16]] rfl (by (try simp only [List.map_toArray, List.map_cons, List.map_nil]); first | done | rfl | (simp only [List.length_drop, List.length_take]; rfl)) ?_; (with_reducible refine (smf_Print.calls k t103 t104 _ _ t105 t109 t110 _ ?side1 ?side2 A6.out).mono ?_); (case side1 => refine (Kd.N_reads' (e := 30) (base := w.heap.size) (ok := fun k_ => (k_ ≠ gb101 ∧ k_ ≠ gb108)) (n := t105.length) (c := co16) ?_).2.2; exact (by (with_reducible repeat (first | apply Kd.N_alloc | apply Kd.N_drewN | apply Kd.N_drew)); exact (Kd.N_mono (Kd.N_far (p := ⟨gb108, 2, none⟩) (Kd.N_far (p := ⟨gb108, 1, none⟩) (Kd.N_far (p := ⟨gb108, 0, none⟩) (Kd.N_mono HO107.out (fun k_ hk => (⟨hk, hk.2⟩ : _ ∧ k_ ≠ gb108))) (fun _ hk => hk.2) (.int .i64 t103)) (fun _ hk => hk.2) (.int .i64 t104)) (fun _ hk => hk.2) (.slice Ao16 t105.length co16)) (fun _ h_ => h_.1)))); (case side2 => exact (Kd.N_reads' HO107.out).2.1); rintro e w17 ⟨rfl, hb⟩; refine ⟨_, rfl, ?_⟩; replace HO107 := Aside0.mk (Kd.N_below (by (with_reducible repeat (first | apply Kd.N_alloc | apply Kd.N_drewN | apply Kd.N_drew)); exact (Kd.N_mono (Kd.N_far (p := ⟨gb108, 2, none⟩) (Kd.N_far (p := ⟨gb108, 1, none⟩) (Kd.N_far (p := ⟨gb108, 0, none⟩) (Kd.N_mono HO107.out (fun k_ hk => (⟨hk, hk.2⟩ : _ ∧ k_ ≠ gb108))) (fun _ hk => hk.2) (.int .i64 t103)) (fun _ hk => hk.2) (.int .i64 t104)) (fun _ hk => hk.2) (.slice Ao16 t105.length co16)) (fun _ h_ => h_.1))) hb); replace BK101 := Aside0.mk (blk_below (g := gb101) (o := .cells #[.int .i64 a0_0, .int .i64 a0_1, .slice A0_2 l0_2.length c0_2] 24 (0, 0)) (by refine bq ?_; refine blk_far ?_ NB101_108.out _; refine bq ?_; refine blk_far ?_ NB101_108.out _; refine bq ?_; refine blk_far ?_ NB101_108.out _; exact bq BK101.out) hb); replace BK108 := Aside0.mk (blk_below (g := gb108) (o := .cells #[.int .i64 t103, .int .i64 t104, .slice Ao16 t105.length co16] 24 (0, 0)) (by refine bq ?_; refine blk_put (cs := #[.int .i64 t103, .int .i64 t104, .slice none 0 0]) ?_ 2 _ rfl; refine bq ?_; refine blk_put (cs := #[.int .i64 t103, .int .i64 0, .slice none 0 0]) ?_ 1 _ rfl; refine bq ?_; refine blk_put (cs := #[.int .i64 0, .int .i64 0, .slice none 0 0]) ?_ 0 _ rfl; exact bq BK108.out) hb); replace HB := Aside0.mk (below_step (qS2 GE101 GE108 HB.out) hb); (try clear hb); (try clear hb2); (try clear hk); (try clear hi)))
    go_ret
    exact ⟨by first | rfl | (simp [errW_none, errW_some] <;> rfl) | (simp [*, errW_none, errW_some] <;> rfl), qS2 GE101 GE108 HB.out⟩
  rw [if_neg c8] at H
  have c8b0 : ((t109.size : Int) == 0) = false := beq_eq_false_iff_ne.mpr c8
  have c8b1 : ((t109.size : Int) != 0) = true := bne_iff_ne.mpr c8
  replace H := Option.bind_eq_some_iff.mp H
  obtain ⟨t111, A180, H⟩ := H
  replace H : (if 0 ≤ t111 then (if t111 ≤ (t109.size : Int) then ((smf_Parse.f k (t109.extract 0 (t111 : Int).toNat)).bind fun bt112 => (if bt112.2.2.2.2 = 152 then (if bt112.2.2.2.1 = t111 then ((smf_Same.f k bt112.1 bt112.2.1 bt112.2.2.1 0 0 ([] : List (List (S28)))).bind fun t120 => (some t120)) else (none)) else (none))) else (none)) else (none)) = some r := H
  have A18 := Aside0.mk A180
  clear A180
  by_cases c19 : 0 ≤ t111
  rotate_left
  · rw [if_neg c19] at H
    exact absurd H (by simp)
  rw [if_pos c19] at H
  have c19b0 := eq_true c19
  have c19b1 : decide (0 ≤ t111) = true := decide_eq_true c19
  clear c19
  by_cases c20 : t111 ≤ (t109.size : Int)
  rotate_left
  · rw [if_neg c20] at H
    exact absurd H (by simp)
  rw [if_pos c20] at H
  have c20b0 := eq_true c20
  have c20b1 : decide (t111 ≤ (t109.size : Int)) = true := decide_eq_true c20
  clear c20
  replace H := Option.bind_eq_some_iff.mp H
  obtain ⟨⟨t112, t113, t114, t117, t118⟩, A210, H⟩ := H
  replace H : (if t118 = 152 then (if t117 = t111 then ((smf_Same.f k t112 t113 t114 0 0 ([] : List (List (S28)))).bind fun t120 => (some t120)) else (none)) else (none)) = some r := H
  have A21 := Aside0.mk A210
  clear A210
  by_cases c22 : t118 = 152
  rotate_left
  · rw [if_neg c22] at H
    exact absurd H (by simp)
  rw [if_pos c22] at H
  have c22b0 : (t118 == 152) = true := beq_iff_eq.mpr c22
  have c22b1 : (t118 != 152) = false := bne_eq_false_iff_eq.mpr c22
  clear c22
  by_cases c23 : t117 = t111
  rotate_left
  · rw [if_neg c23] at H
    exact absurd H (by simp)
  rw [if_pos c23] at H
  have c23b0 : (t117 == t111) = true := beq_iff_eq.mpr c23
  have c23b1 : (t117 != t111) = false := bne_eq_false_iff_eq.mpr c23
  clear c23
  replace H := Option.bind_eq_some_iff.mp H
  obtain ⟨t120, A240, H⟩ := H
  replace H : (some t120) = some r := H
  have A24 := Aside0.mk A240
  clear A240
  obtain rfl := Option.some.inj H
  go_enter Try.func7, Try.ntmps7
  go_wp2_with (first | ((with_reducible refine gate_dst (N := 2) rfl ?_); (try (refine gate_guard (by rfl) ?_; dsimp only)); refine box_event ?hg (N := 2) ?hd (cs := #[.int .i64 a0_0, .int .i64 a0_1, .slice A0_2 l0_2.length c0_2]) (t := 24) ?hr ?_; (case hd => rfl); (case hg => rfl); (case hr => first | (go_simp; done) | (go_simp; rfl)); intro gb101 hg w25 hbox hb; have BK101 := Aside0.mk (hbox); have GW101 := Aside0.mk ((by rw [hg]; exact (below_size (qB HB.out)) : w.heap.size ≤ gb101)); have GE101 := Aside0.mk ((by rw [hg]; exact (below_size (qB HB.out)) : w.heap.size ≤ gb101)); replace HB := Aside0.mk (below_step (qB HB.out) hb); clear hb hbox hg) | ((with_reducible refine gate_callee (f := 11) rfl ?_); refine goesL_ (some 13) rfl rfl Try.func11 (by kernel_rfl) rfl #[] rfl (by (try simp only [List.map_toArray, List.map_cons, List.map_nil]); first | done | rfl | (simp only [List.length_drop, List.length_take]; rfl)) ?_; (with_reducible refine (partitalaw16_examples.calls k  true _ A3.out).mono ?_); rintro e w26 ⟨rfl, hb⟩; refine ⟨_, rfl, ?_⟩; replace BK101 := Aside0.mk (blk_below (bq BK101.out) hb); replace HB := Aside0.mk (below_step (qS1 GE101 HB.out) hb); (try clear hb); (try clear hb2); (try clear hk); (try clear hi); obtain ⟨hcz27_0, hcz27_1, hcz27_2, hfz27_0, hfz27_1, hfz27_2⟩ := blk3 BK101.out) | ((with_reducible refine gate_callee (f := 12) rfl ?_); refine goesL_ (some 17) rfl rfl Try.func12 (by kernel_rfl) rfl #[.agg #[.int .i64 a0_0, .int .i64 a0_1, .slice A0_2 l0_2.length c0_2]] rfl (by (try simp only [List.map_toArray, List.map_cons, List.map_nil]); first | done | rfl | (simp only [List.length_drop, List.length_take]; rfl)) ?_; (with_reducible refine (partitalaw16_File.calls k a0_0 a0_1 _ _ l0_2 t103 t104 t105 _ ?side1 ?side2 A5.out).mono ?_); (case side1 => repeat (first | exact (Kd.C_below HR0_2.out HB.out) | (with_reducible refine Kd.C_alloc ?_ _) | (with_reducible refine Kd.C_drewN ?_ _) | (with_reducible refine Kd.C_drew ?_))); (case side2 => exact HC0_2.out); rintro e w28 ⟨v106, rfl, ho0, hb⟩; refine ⟨_, rfl, ?_⟩; have HO107 := Aside0.mk (Kd.N_lower (Kd.N_mono (ok' := fun k_ => k_ ≠ gb101) ho0 (fun k_ hk_ => (Kd.freshB (bq BK101.out) k_ hk_))) (below_size (qS1 GE101 HB.out))); replace BK101 := Aside0.mk (blk_below (bq BK101.out) hb); replace HB := Aside0.mk (below_step (qS1 GE101 HB.out) hb); (try clear hb); (try clear hb2); (try clear hk); (try clear hi); (try clear ho0)) | ((with_reducible refine gate_dst (N := 6) rfl ?_); (try (refine gate_guard (by rfl) ?_; dsimp only)); refine box_event ?hg (N := 6) ?hd (cs := #[.int .i64 0, .int .i64 0, .slice none 0 0]) (t := 24) ?hr ?_; (case hd => rfl); (case hg => rfl); (case hr => first | (go_simp; done) | (go_simp; rfl)); intro gb108 hg w29 hbox hb; replace HO107 := Aside0.mk (Kd.N_below (Kd.N_elderB (qN HO107.out) gb108 (Nat.le_of_eq hg.symm)) hb); have BK108 := Aside0.mk (hbox); have GW108 := Aside0.mk ((by rw [hg]; exact (below_size (qS1 GE101 HB.out)) : w.heap.size ≤ gb108)); have GE108 := Aside0.mk ((by rw [hg]; exact (below_size (qS1 GE101 HB.out)) : w.heap.size ≤ gb108)); replace HB := Aside0.mk (below_step (qS1 GE101 HB.out) hb); have NB101_108 := Aside0.mk ((by rw [hg]; exact Nat.ne_of_lt (blk_lt (bq BK101.out)) : gb101 ≠ gb108)); have NB108_101 := Aside0.mk ((by rw [hg]; exact Nat.ne_of_gt (blk_lt (bq BK101.out)) : gb108 ≠ gb101)); replace BK101 := Aside0.mk (blk_below (bq BK101.out) hb); clear hb hbox hg; have hnb30 := NB108_101.out; have hnc30 := NB101_108.out; obtain ⟨hcz31_0, hcz31_1, hcz31_2, hfz31_0, hfz31_1, hfz31_2⟩ := blk3 BK108.out; obtain ⟨Ao32, co32, eo32⟩ := Kd.N_slice HO107.out; subst eo32) | ((with_reducible refine gate_callee (f := 15) rfl ?_); refine goesL_ (some 20) rfl rfl Try.func15 (by kernel_rfl) rfl #[.agg #[.int .i64 t103, .int .i64 t104, .slice Ao32 t105.length co32]] rfl (by (try simp only [List.map_toArray, List.map_cons, List.map_nil]); first | done | rfl | (simp only [List.length_drop, List.length_take]; rfl)) ?_; (with_reducible refine (smf_Print.calls k t103 t104 _ _ t105 t109 t110 _ ?side1 ?side2 A6.out).mono ?_); (case side1 => refine (Kd.N_reads' (e := 30) (base := w.heap.size) (ok := fun k_ => (k_ ≠ gb101 ∧ k_ ≠ gb108)) (n := t105.length) (c := co32) ?_).2.2; exact (by (with_reducible repeat (first | apply Kd.N_alloc | apply Kd.N_drewN | apply Kd.N_drew)); exact (Kd.N_mono (Kd.N_far (p := ⟨gb108, 2, none⟩) (Kd.N_far (p := ⟨gb108, 1, none⟩) (Kd.N_far (p := ⟨gb108, 0, none⟩) (Kd.N_mono HO107.out (fun k_ hk => (⟨hk, hk.2⟩ : _ ∧ k_ ≠ gb108))) (fun _ hk => hk.2) (.int .i64 t103)) (fun _ hk => hk.2) (.int .i64 t104)) (fun _ hk => hk.2) (.slice Ao32 t105.length co32)) (fun _ h_ => h_.1)))); (case side2 => exact (Kd.N_reads' HO107.out).2.1); rintro e w33 ⟨rfl, hb⟩; refine ⟨_, rfl, ?_⟩; replace HO107 := Aside0.mk (Kd.N_below (by (with_reducible repeat (first | apply Kd.N_alloc | apply Kd.N_drewN | apply Kd.N_drew)); exact (Kd.N_mono (Kd.N_far (p := ⟨gb108, 2, none⟩) (Kd.N_far (p := ⟨gb108, 1, none⟩) (Kd.N_far (p := ⟨gb108, 0, none⟩) (Kd.N_mono HO107.out (fun k_ hk => (⟨hk, hk.2⟩ : _ ∧ k_ ≠ gb108))) (fun _ hk => hk.2) (.int .i64 t103)) (fun _ hk => hk.2) (.int .i64 t104)) (fun _ hk => hk.2) (.slice Ao32 t105.length co32)) (fun _ h_ => h_.1))) hb); replace BK101 := Aside0.mk (blk_below (g := gb101) (o := .cells #[.int .i64 a0_0, .int .i64 a0_1, .slice A0_2 l0_2.length c0_2] 24 (0, 0)) (by refine bq ?_; refine blk_far ?_ NB101_108.out _; refine bq ?_; refine blk_far ?_ NB101_108.out _; refine bq ?_; refine blk_far ?_ NB101_108.out _; exact bq BK101.out) hb); replace BK108 := Aside0.mk (blk_below (g := gb108) (o := .cells #[.int .i64 t103, .int .i64 t104, .slice Ao32 t105.length co32] 24 (0, 0)) (by refine bq ?_; refine blk_put (cs := #[.int .i64 t103, .int .i64 t104, .slice none 0 0]) ?_ 2 _ rfl; refine bq ?_; refine blk_put (cs := #[.int .i64 t103, .int .i64 0, .slice none 0 0]) ?_ 1 _ rfl; refine bq ?_; refine blk_put (cs := #[.int .i64 0, .int .i64 0, .slice none 0 0]) ?_ 0 _ rfl; exact bq BK108.out) hb); replace HB := Aside0.mk (below_step (qS2 GE101 GE108 HB.out) hb); (try clear hb); (try clear hb2); (try clear hk); (try clear hi)) | ((with_reducible refine gate_callee (f := 19) rfl ?_); refine goesL_ (some 33) rfl rfl Try.func19 (by kernel_rfl) rfl #[.int .i64 a1, .int .i64 (t109.size : Int)] rfl (by (try simp only [List.map_toArray, List.map_cons, List.map_nil]); first | done | rfl | (simp only [List.length_drop, List.length_take]; rfl)) ?_; (with_reducible refine (partitalaw16_pick.calls a1 (t109.size : Int) t111 _ A18.out).mono ?_); rintro e w' ⟨rfl, ⟨nd, rfl⟩⟩; refine ⟨_, rfl, ?_⟩; (try (rw [drewN_self w33]; generalize hq_ : World.drewN w33 _ = w33; have n0_ : Aside0 (Kd.N (Kd.slice 28 k28) 30 w33 w.heap.size (fun k_ => k_ ≠ gb101 ∧ k_ ≠ gb108) (.slice Ao32 t105.length co32) t105) := ⟨by rw [← hq_]; exact (qN HO107.out)⟩; have n1_ : Aside0 (w33.heap[gb101]? = some (.cells #[.int .i64 a0_0, .int .i64 a0_1, .slice A0_2 l0_2.length c0_2] 24 (0, 0))) := ⟨by rw [← hq_]; exact (bq BK101.out)⟩; have n2_ : Aside0 (w33.heap[gb108]? = some (.cells #[.int .i64 t103, .int .i64 t104, .slice Ao32 t105.length co32] 24 (0, 0))) := ⟨by rw [← hq_]; exact (bq BK108.out)⟩; have n3_ : Aside0 (Below w.heap.size w w33) := ⟨by rw [← hq_]; exact (qS2 GE101 GE108 HB.out)⟩; clear HO107 BK101 BK108 HB hq_; have HO107 := n0_; have BK101 := n1_; have BK108 := n2_; have HB := n3_; clear n0_ n1_ n2_ n3_))) | ((with_reducible refine gate_callee (f := 21) rfl ?_); refine goesL_ (some 38) rfl rfl Try.func21 (by kernel_rfl) rfl #[.string (t109.extract 0 (t111 : Int).toNat)] rfl (by (try simp only [List.map_toArray, List.map_cons, List.map_nil]); first | done | rfl | (simp only [List.length_drop, List.length_take]; rfl)) ?_; (with_reducible refine (smf_Parse.calls k (t109.extract 0 (t111 : Int).toNat) t112 t113 t114 t117 t118 _ A21.out).mono ?_); rintro e w34 ⟨v115, rfl, ho0, hb⟩; refine ⟨_, rfl, ?_⟩; have HO116 := Aside0.mk (Kd.N_lower (Kd.N_mono (ok' := fun k_ => some k_ ≠ (.slice Ao32 t105.length co32 : Value).ownBlock ∧ k_ ≠ gb101 ∧ k_ ≠ gb108) (Kd.S_N (Kd.S_bound ho0)) (fun k_ hk_ => ⟨(Kd.fresh' (Kd.N_lt (qN HO107.out)) k_ hk_.2.1), (Kd.freshB (bq BK101.out) k_ hk_.2.1), (Kd.freshB (bq BK108.out) k_ hk_.2.1)⟩)) (below_size (qS2 GE101 GE108 HB.out))); replace HO107 := Aside0.mk (Kd.N_elder' (qN HO107.out) (by first | exact Kd.S_base ho0 | exact Kd.N_base ho0) hb); replace BK101 := Aside0.mk (blk_below (bq BK101.out) hb); replace BK108 := Aside0.mk (blk_below (bq BK108.out) hb); replace HB := Aside0.mk (below_step (qS2 GE101 GE108 HB.out) hb); (try clear hb); (try clear hb2); (try clear hk); (try clear hi); (try clear ho0)) | ((with_reducible refine gate_dst (N := 10) rfl ?_); (try (refine gate_guard (by rfl) ?_; dsimp only)); refine box_event ?hg (N := 10) ?hd (cs := #[.int .i64 0, .int .i64 0, .slice none 0 0]) (t := 24) ?hr ?_; (case hd => rfl); (case hg => rfl); (case hr => first | (go_simp; done) | (go_simp; rfl)); intro gb119 hg w35 hbox hb; replace HO107 := Aside0.mk (Kd.N_below (Kd.N_elderB (qN HO107.out) gb119 (Nat.le_of_eq hg.symm)) hb); replace HO116 := Aside0.mk (Kd.N_below (Kd.N_elderB (qN HO116.out) gb119 (Nat.le_of_eq hg.symm)) hb); have BK119 := Aside0.mk (hbox); have GW119 := Aside0.mk ((by rw [hg]; exact (below_size (qS2 GE101 GE108 HB.out)) : w.heap.size ≤ gb119)); have GE119 := Aside0.mk ((by rw [hg]; exact (below_size (qS2 GE101 GE108 HB.out)) : w.heap.size ≤ gb119)); replace HB := Aside0.mk (below_step (qS2 GE101 GE108 HB.out) hb); have NB101_119 := Aside0.mk ((by rw [hg]; exact Nat.ne_of_lt (blk_lt (bq BK101.out)) : gb101 ≠ gb119)); have NB119_101 := Aside0.mk ((by rw [hg]; exact Nat.ne_of_gt (blk_lt (bq BK101.out)) : gb119 ≠ gb101)); replace BK101 := Aside0.mk (blk_below (bq BK101.out) hb); have NB108_119 := Aside0.mk ((by rw [hg]; exact Nat.ne_of_lt (blk_lt (bq BK108.out)) : gb108 ≠ gb119)); have NB119_108 := Aside0.mk ((by rw [hg]; exact Nat.ne_of_gt (blk_lt (bq BK108.out)) : gb119 ≠ gb108)); replace BK108 := Aside0.mk (blk_below (bq BK108.out) hb); clear hb hbox hg; have hnb36 := NB119_101.out; have hnc36 := NB101_119.out; have hnb37 := NB119_108.out; have hnc37 := NB108_119.out; obtain ⟨hcz38_0, hcz38_1, hcz38_2, hfz38_0, hfz38_1, hfz38_2⟩ := blk3 BK119.out; obtain ⟨Ao39, co39, eo39⟩ := Kd.N_slice HO116.out; subst eo39) | (go_at_call 14; (refine (smf_Same.calls k t112 t113 _ _ t114 0 0 _ _ ([] : List (List (S28))) t120 _ ?side1 ?side2 ?side3 ?side4 A24.out).mono ?_); (case side1 => refine (Kd.N_reads' (e := 30) (base := w.heap.size) (ok := fun k_ => ((some k_ ≠ (.slice Ao32 t105.length co32 : Value).ownBlock ∧ (k_ ≠ gb101 ∧ k_ ≠ gb108)) ∧ k_ ≠ gb119)) (n := t114.length) (c := co39) ?_).2.2; exact (by (with_reducible repeat (first | apply Kd.N_alloc | apply Kd.N_drewN | apply Kd.N_drew)); exact (Kd.N_mono (Kd.N_far (p := ⟨gb119, 2, none⟩) (Kd.N_far (p := ⟨gb119, 1, none⟩) (Kd.N_far (p := ⟨gb119, 0, none⟩) (Kd.N_mono HO116.out (fun k_ hk => (⟨hk, hk.2⟩ : _ ∧ k_ ≠ gb119))) (fun _ hk => hk.2) (.int .i64 t112)) (fun _ hk => hk.2) (.int .i64 t113)) (fun _ hk => hk.2) (.slice Ao39 t114.length co39)) (fun _ h_ => h_.1)))); (case side2 => exact (Kd.N_reads' HO116.out).2.1); (case side3 => exact Kd.C_nil _ _); (case side4 => exact Nat.le_refl _); rintro e w40 ⟨rfl, hb⟩; replace HO107 := Aside0.mk (Kd.N_below (by (with_reducible repeat (first | apply Kd.N_alloc | apply Kd.N_drewN | apply Kd.N_drew)); exact (Kd.N_mono (Kd.N_far (p := ⟨gb119, 2, none⟩) (Kd.N_far (p := ⟨gb119, 1, none⟩) (Kd.N_far (p := ⟨gb119, 0, none⟩) (Kd.N_mono HO107.out (fun k_ hk => (⟨hk, hk.2⟩ : _ ∧ k_ ≠ gb119))) (fun _ hk => hk.2) (.int .i64 t112)) (fun _ hk => hk.2) (.int .i64 t113)) (fun _ hk => hk.2) (.slice Ao39 t114.length co39)) (fun _ h_ => h_.1))) hb); replace HO116 := Aside0.mk (Kd.N_below (by (with_reducible repeat (first | apply Kd.N_alloc | apply Kd.N_drewN | apply Kd.N_drew)); exact (Kd.N_mono (Kd.N_far (p := ⟨gb119, 2, none⟩) (Kd.N_far (p := ⟨gb119, 1, none⟩) (Kd.N_far (p := ⟨gb119, 0, none⟩) (Kd.N_mono HO116.out (fun k_ hk => (⟨hk, hk.2⟩ : _ ∧ k_ ≠ gb119))) (fun _ hk => hk.2) (.int .i64 t112)) (fun _ hk => hk.2) (.int .i64 t113)) (fun _ hk => hk.2) (.slice Ao39 t114.length co39)) (fun _ h_ => h_.1))) hb); replace BK101 := Aside0.mk (blk_below (g := gb101) (o := .cells #[.int .i64 a0_0, .int .i64 a0_1, .slice A0_2 l0_2.length c0_2] 24 (0, 0)) (by refine bq ?_; refine blk_far ?_ NB101_119.out _; refine bq ?_; refine blk_far ?_ NB101_119.out _; refine bq ?_; refine blk_far ?_ NB101_119.out _; exact bq BK101.out) hb); replace BK108 := Aside0.mk (blk_below (g := gb108) (o := .cells #[.int .i64 t103, .int .i64 t104, .slice Ao32 t105.length co32] 24 (0, 0)) (by refine bq ?_; refine blk_far ?_ NB108_119.out _; refine bq ?_; refine blk_far ?_ NB108_119.out _; refine bq ?_; refine blk_far ?_ NB108_119.out _; exact bq BK108.out) hb); replace BK119 := Aside0.mk (blk_below (g := gb119) (o := .cells #[.int .i64 t112, .int .i64 t113, .slice Ao39 t114.length co39] 24 (0, 0)) (by refine bq ?_; refine blk_put (cs := #[.int .i64 t112, .int .i64 t113, .slice none 0 0]) ?_ 2 _ rfl; refine bq ?_; refine blk_put (cs := #[.int .i64 t112, .int .i64 0, .slice none 0 0]) ?_ 1 _ rfl; refine bq ?_; refine blk_put (cs := #[.int .i64 0, .int .i64 0, .slice none 0 0]) ?_ 0 _ rfl; exact bq BK119.out) hb); replace HB := Aside0.mk (below_step (qS3 GE101 GE108 GE119 HB.out) hb); (try clear hb); (try clear hb2); (try clear hk); (try clear hi)))
  go_ret
  exact ⟨by first | rfl | (simp [errW_none, errW_some] <;> rfl) | (simp [*, errW_none, errW_some] <;> rfl), qS3 GE101 GE108 GE119 HB.out⟩
end Go.Proofs.Ytdmnknhlibaaoaa.M
namespace Go.Proofs.Ytdmnknhlibaaoaa.Z
open Go.RowKit Go.Proofs.YtdmnknhlibaaoaaW.PrintWords Go.Proofs.YtdmnknhlibaaoaaW.PrintLast Go.Proofs.YtdmnknhlibaaoaaW.PrintMore Go.Proofs.Ytdmnknhlibaaoaa.M
set_option linter.unusedVariables false
theorem rd_take {b : List Int} {k j : Nat} (h : j < k) : rd (b.take k) (j : Int) = rd b (j : Int) := by
  unfold rd
  rw [List.getD_eq_getElem?_getD, List.getD_eq_getElem?_getD, Int.toNat_natCast, List.getElem?_take, if_pos h]
theorem okL_take {b : List Int} {k j : Nat} (h : j < k) (hj : j < 14) : okL (b.take k) j = okL b j := by
  have e : ∀ i, i ≤ j → rd (b.take k) ((i : Nat) : Int) = rd b (i : Int) := fun i hi => rd_take (by omega)
  rcases (show j = 0 ∨ j = 1 ∨ j = 2 ∨ j = 3 ∨ j = 4 ∨ j = 5 ∨ j = 6 ∨ j = 7 ∨ j = 8 ∨ j = 9 ∨ j = 10 ∨ j = 11 ∨ j = 12 ∨ j = 13 by omega) with rfl | rfl | rfl | rfl | rfl | rfl | rfl | rfl | rfl | rfl | rfl | rfl | rfl | rfl
  · exact congrArg (· == 77) (e 0 (by omega))
  · exact congrArg (· == 84) (e 1 (by omega))
  · exact congrArg (· == 104) (e 2 (by omega))
  · exact congrArg (· == 100) (e 3 (by omega))
  · exact congrArg (· == 0) (e 4 (by omega))
  · exact congrArg (· == 0) (e 5 (by omega))
  · exact congrArg (· == 0) (e 6 (by omega))
  · exact congrArg (· == 6) (e 7 (by omega))
  · exact congrArg (· == 0) (e 8 (by omega))
  · exact congrArg (fun x : Int => decide (x ≤ 1)) (e 9 (by omega))
  · exact congrArg (· == 0) (e 10 (by omega))
  · have h1 := e 11 (by omega)
    have h2 := e 9 (by omega)
    show okN (rd (b.take k) 11) (rd (b.take k) 9) = okN (rd b 11) (rd b 9)
    rw [show rd (b.take k) 11 = rd b 11 from h1, show rd (b.take k) 9 = rd b 9 from h2]
  · exact congrArg (fun x : Int => decide (x < 128)) (e 12 (by omega))
  · have h1 := e 13 (by omega)
    have h2 := e 12 (by omega)
    show (decide (rd (b.take k) 13 > 0) || decide (rd (b.take k) 12 > 0)) = (decide (rd b 13 > 0) || decide (rd b 12 > 0))
    rw [show rd (b.take k) 13 = rd b 13 from h1, show rd (b.take k) 12 = rd b 12 from h2]
theorem ch_cut {l : List Msg} (hl : (enc 0 l).length < 4294967296) {m : Nat} (hm : m < (trkB l).length) : ChR ((trkB l).take m) (.error (0, 152)) := by
  have hlen := trkB_len l
  by_cases c : m < 8
  · exact .short (by rw [List.length_take]; omega)
  · have h : (trkB l).take m = trkL ++ (four (enc 0 l).length ++ (enc 0 l).take (m - 8)) := by
      unfold trkB
      rw [List.take_append, List.take_append]
      have h4 : trkL.length = 4 := rfl
      have h5 : (four (enc 0 l).length).length = 4 := rfl
      rw [h4, h5, List.take_of_length_le (by omega), List.take_of_length_le (by omega), show m - 4 - 4 = m - 8 by omega]
    rw [h]
    refine .cut rfl rfl ?_
    rw [val4_four (by omega) (by omega), List.length_take]
    omega
theorem pr_cut : ∀ {ts : List (List Msg)}, (∀ l ∈ ts, Rights l ∧ endsB l = true ∧ (enc 0 l).length < 4294967296) → ∀ m, m < (trksB ts).length → PrR ts.length ((trksB ts).take m) (.error (0, 152))
  | [], _, m, hm => by simp [trksB] at hm
  | l :: r, h, m, hm => by
    obtain ⟨h1, h2, h3⟩ := h l (by simp)
    rw [trksB, List.length_append] at hm
    by_cases c : m < (trkB l).length
    · have e : (trksB (l :: r)).take m = (trkB l).take m := by rw [trksB, List.take_append_of_le_length (by omega)]
      rw [e]
      exact .err (ch_cut h3 c)
    · have e : (trksB (l :: r)).take m = trkB l ++ (trksB r).take (m - (trkB l).length) := by rw [trksB, List.take_append, List.take_of_length_le (by omega)]
      rw [e]
      exact .takeErr (ch_trk h1 h2 h3 _) (endsB_ne h2) (pr_cut (fun x hx => h x (by simp [hx])) _ (by omega))
theorem FR.cut {f d : Int} {ts : List (List Msg)} (h : FR f d ts) {k : Nat} (hk : k < (bytesF f d ts).size) : Ev (fun n => smf_Parse.f n ((bytesF f d ts).extract 0 k)) (0, 0, [], (k : Int), 152) := by
  have hb : bytesOf ((bytesF f d ts).extract 0 k) = (fileB f d ts).take k := by rw [bytesOf_extract, h.bytes, List.drop_zero, Nat.sub_zero]
  have hl := h.len
  have hs := h.size
  have hz : ((bytesF f d ts).extract 0 k).size = k := by rw [← bytesOf_length, hb, List.length_take]; omega
  by_cases c : k < 14
  · have := parse_headBad (s := (bytesF f d ts).extract 0 k) (by omega) (headGo_short (by omega) (fun j hj => by
      rw [okAt_bytes hb, okL_take (by omega) (by omega)]
      exact okL_head h.head (trksB ts) j (by omega)))
    rw [hz] at this
    exact this
  · have e : (fileB f d ts).take k = headB f d ts.length ++ (trksB ts).take (k - 14) := by
      unfold fileB
      rw [List.take_append, headB_len, List.take_of_length_le (by rw [headB_len]; omega)]
    have hlen : (fileB f d ts).length = 14 + (trksB ts).length := by unfold fileB; rw [List.length_append, headB_len]
    have := parse_right (s := (bytesF f d ts).extract 0 k) (by omega) h.head (by rw [hb, e]) (pr_cut h.trk (k - 14) (by omega))
    rw [hz] at this
    refine Ev.ok this ?_
    simp
theorem smfShort {f d n : Int} {L : List (List Msg)} (hf : I64 f) (hd : I64 d) (hL : Raws L) (hn : I64 n) : Ev (fun k => partitalaw16_SmfShort.f k f d L n) true := by
  obtain ⟨f1, d1, a, e1, g1⟩ := file_ev hf hd hL
  have h1 := gf_fr g1
  have hs := h1.size
  have hlen : (fileB f1 d1 a).length = 14 + (trksB a).length := by unfold fileB; rw [List.length_append, headB_len]
  refine Ev.bind examples_ev (Ev.yes rfl (Ev.bind e1 ?_))
  dsimp only
  refine Ev.bind h1.print ?_
  dsimp only
  obtain ⟨p, hp, p0, p1⟩ := pick_f hn (n := ((bytesF f1 d1 a).size : Int)) (by omega)
  refine Ev.yes rfl (Ev.no (by omega) (Ev.bind (Ev.eq hp) (Ev.yes p0 (Ev.yes (by omega) ?_))))
  obtain ⟨k, rfl⟩ : ∃ k : Nat, p = (k : Int) := ⟨p.toNat, by omega⟩
  rw [Int.toNat_natCast]
  refine Ev.bind (h1.cut (by omega)) ?_
  dsimp only
  refine Ev.yes rfl (Ev.yes rfl (Ev.bind (same_ev 0 0 [] 0 0 [] ⟨by simp, fun l hl => by cases hl⟩) (Ev.ok (Ev.now _) (by simp))))
end Go.Proofs.Ytdmnknhlibaaoaa.Z
