/- Functions and contracts printed by a program of this session (wip/tools), and texts by hand: Print, Parse, and the plain answers (part 5). -/
import Derived.Test.YtdmnknhlibaaoaaDoorCW
import Derived.Test.YtdmnknhlibaaoaaDoorC1
import Derived.Test.YtdmnknhlibaaoaaDoorC2
import Derived.Test.YtdmnknhlibaaoaaDoorC4
import Derived.Test.YtdmnknhlibaaoaaDoorC3
namespace Go.Proofs.YtdmnknhlibaaoaaDoor.M
open Go.RowKit Go.Proofs.YtdmnknhlibaaoaaDoorW.PrintWords Go.Proofs.YtdmnknhlibaaoaaDoorW.PrintLast Go.Proofs.YtdmnknhlibaaoaaDoorW.PrintMore
attribute [local go_sem] max2_int min2_int max_two min_two max_three min_three max_four min_four
set_option linter.unusedVariables false
set_option linter.unusedSimpArgs false
mutual
def partitalaw16_SmfScale.l0 : Nat → Int → Bool → List (S37) → Int → List (S39) → Int → Int → Int → Option (Bool)
  | 0, _, _, _, _, _, _, _, _ => none
  | k + 1, x2, x7, x9, x10, x12, x13, x111000, x111001 => if x13 < (x9.length : Int) then (if 0 ≤ x13 then ((pitch_Number.f ((rd_T37 x9 x13).f0) ((rd_T37 x9 x13).f1) ((rd_T37 x9 x13).f2)).bind fun bt112 => (if bt112.2 = 0 then ((some (([(⟨0, 9, wrap64 (Int.tmod x2 16), bt112.1, 64, (⟨#[]⟩ : ByteArray)⟩ : S39), (⟨x111001, 9, wrap64 (Int.tmod x2 16), bt112.1, 0, (⟨#[]⟩ : ByteArray)⟩ : S39)] : List (S39)) : List (S39))).bind fun y114 => (if x12.length + y114.length < 2513169434916 then (partitalaw16_SmfScale.l0 k x2 x7 x9 x10 (x12 ++ y114) (wrap64 (x13 + 1)) x111000 x111001) else (none))) else (some false))) else (none)) else ((partitalaw16_End.f 0).bind fun bt120 => (if x12.length < 2513169434916 then ((some (([(x12 ++ [(⟨bt120.1, bt120.2.1, bt120.2.2.1, bt120.2.2.2.1, bt120.2.2.2.2.1, bt120.2.2.2.2.2⟩ : S39)])] : List (List (S39))) : List (List (S39)))).bind fun y129 => ((smf_Print.f k x111000 x111001 y129).bind fun bt132 => ((smf_Parse.f k bt132.1).bind fun bt134 => (if 0 < (y129.length : Int) then ((wire_Encode.f k (rd_L4 y129 0)).bind fun bt143 => (if x10 = 0 then (if bt132.2 = 0 then (if bt134.2.2.2.2 = 0 then (if bt134.2.2.2.1 = 0 then (if bt143.2 = 0 then (if (x9.length : Int) = 7 then (if (bt134.2.2.1.length : Int) = 1 then (if 0 < (bt134.2.2.1.length : Int) then (if ((rd_L4 bt134.2.2.1 0).length : Int) = 15 then (if (bt132.1.size : Int) = (wrap64 (22 + (bt143.1.size : Int))) then (partitalaw16_SmfScale.l1 k x7 (-1) 0 bt134.1 bt134.2.1 bt134.2.2.1) else (some false)) else (none)) else (none)) else (none)) else (none)) else (none)) else (none)) else (none)) else (none)) else (none))) else (none))))) else (none)))
def partitalaw16_SmfScale.l1 : Nat → Bool → Int → Int → Int → Int → List (List (S39)) → Option (Bool)
  | 0, _, _, _, _, _, _ => none
  | k + 1, x7, x23, x24, x142000, x142001, x142002 => if x24 < 14 then (if 0 < (x142002.length : Int) then (if 0 ≤ x24 then (if x24 < ((rd_L4 x142002 0).length : Int) then (if 0 ≤ (wrap64 (x24 + 1)) then (if (wrap64 (x24 + 1)) < ((rd_L4 x142002 0).length : Int) then (if ((rd_T39 (rd_L4 x142002 0) (wrap64 (x24 + 1))).f3) = ((rd_T39 (rd_L4 x142002 0) x24).f3) then (if ((rd_T39 (rd_L4 x142002 0) (wrap64 (x24 + 1))).f4) = 0 then (if ((rd_T39 (rd_L4 x142002 0) x24).f4) = 64 then (if x23 ≥ 0 then (if (wrap64 (((rd_T39 (rd_L4 x142002 0) x24).f3) - x23)) = 1 then (partitalaw16_SmfScale.l1 k x7 ((rd_T39 (rd_L4 x142002 0) x24).f3) (wrap64 (x24 + 2)) x142000 x142001 x142002) else (if (wrap64 (((rd_T39 (rd_L4 x142002 0) x24).f3) - x23)) = 2 then (partitalaw16_SmfScale.l1 k x7 ((rd_T39 (rd_L4 x142002 0) x24).f3) (wrap64 (x24 + 2)) x142000 x142001 x142002) else (some false))) else (partitalaw16_SmfScale.l1 k x7 ((rd_T39 (rd_L4 x142002 0) x24).f3) (wrap64 (x24 + 2)) x142000 x142001 x142002)) else (none)) else (none)) else (none)) else (none)) else (none)) else (none)) else (none)) else (none)) else (if 0 < (x142002.length : Int) then (if 0 < ((rd_L4 x142002 0).length : Int) then (if x7 = true then (if (wrap64 ((wrap64 (((rd_T39 (rd_L4 x142002 0) 0).f3) + 12)) - x23)) = 1 then (some true) else (some ((wrap64 ((wrap64 (((rd_T39 (rd_L4 x142002 0) 0).f3) + 12)) - x23)) == 2))) else (some false)) else (none)) else (none))
end
def partitalaw16_SmfScale.f (k : Nat) (a0_0 : Int) (a0_1 : Bool) (a1 : Int) (a2 : Int) : Option (Bool) := (partitalaw16_examples.f k).bind fun t102 => (if t102 = true then ((partitalaw16_pick.f a0_0 15).bind fun t103 => ((key_Scale.f k (wrap64 (t103 - 7)) a0_1).bind fun bt105 => ((partitalaw16_pick.f a1 32767).bind fun t109 => (partitalaw16_SmfScale.l0 k a2 t102 bt105.1 bt105.2 ([] : List (S39)) 0 0 (wrap64 (1 + t109)))))) else (some false))
theorem partitalaw16_SmfScale.mono_l : ∀ k, (∀ y0 y1 y2 y3 y4 y5 y6 y7, LeO (partitalaw16_SmfScale.l0 k y0 y1 y2 y3 y4 y5 y6 y7) (partitalaw16_SmfScale.l0 (k + 1) y0 y1 y2 y3 y4 y5 y6 y7)) ∧ (∀ y0 y1 y2 y3 y4 y5, LeO (partitalaw16_SmfScale.l1 k y0 y1 y2 y3 y4 y5) (partitalaw16_SmfScale.l1 (k + 1) y0 y1 y2 y3 y4 y5))
  | 0 => ⟨fun _ _ _ _ _ _ _ _ r h => by simp [partitalaw16_SmfScale.l0] at h, fun _ _ _ _ _ _ r h => by simp [partitalaw16_SmfScale.l1] at h⟩
  | k + 1 => by
    obtain ⟨ih0, ih1⟩ := partitalaw16_SmfScale.mono_l k
    refine ⟨?_, ?_⟩
    · intro y0 y1 y2 y3 y4 y5 y6 y7
      unfold partitalaw16_SmfScale.l0
      repeat' first
      | (with_reducible exact ih0 _ _ _ _ _ _ _ _)
      | (with_reducible exact ih1 _ _ _ _ _ _)
      | (with_reducible exact key_Scale.mono _ _ _)
      | (with_reducible exact partitalaw16_examples.mono _)
      | (with_reducible exact smf_Parse.mono _ _)
      | (with_reducible exact smf_Print.mono _ _ _ _)
      | (with_reducible exact wire_Encode.mono _ _)
      | (with_reducible exact LeO.refl _)
      | (with_reducible exact LeO.none _)
      | (with_reducible refine LeO.ite ?_ ?_)
      | (with_reducible refine LeO.bind ?_ (fun _ => ?_))
      | exact ih0 _ _ _ _ _ _ _ _
      | exact ih1 _ _ _ _ _ _
      | exact key_Scale.mono _ _ _
      | exact partitalaw16_examples.mono _
      | exact smf_Parse.mono _ _
      | exact smf_Print.mono _ _ _ _
      | exact wire_Encode.mono _ _
      | exact LeO.none _
      | refine LeO.ite ?_ ?_
      | refine LeO.bind ?_ (fun _ => ?_)
    · intro y0 y1 y2 y3 y4 y5
      unfold partitalaw16_SmfScale.l1
      repeat' first
      | (with_reducible exact ih0 _ _ _ _ _ _ _ _)
      | (with_reducible exact ih1 _ _ _ _ _ _)
      | (with_reducible exact key_Scale.mono _ _ _)
      | (with_reducible exact partitalaw16_examples.mono _)
      | (with_reducible exact smf_Parse.mono _ _)
      | (with_reducible exact smf_Print.mono _ _ _ _)
      | (with_reducible exact wire_Encode.mono _ _)
      | (with_reducible exact LeO.refl _)
      | (with_reducible exact LeO.none _)
      | (with_reducible refine LeO.ite ?_ ?_)
      | (with_reducible refine LeO.bind ?_ (fun _ => ?_))
      | exact ih0 _ _ _ _ _ _ _ _
      | exact ih1 _ _ _ _ _ _
      | exact key_Scale.mono _ _ _
      | exact partitalaw16_examples.mono _
      | exact smf_Parse.mono _ _
      | exact smf_Print.mono _ _ _ _
      | exact wire_Encode.mono _ _
      | exact LeO.none _
      | refine LeO.ite ?_ ?_
      | refine LeO.bind ?_ (fun _ => ?_)
theorem partitalaw16_SmfScale.mono : ∀ a0 a1 a2 a3 k, LeO (partitalaw16_SmfScale.f k a0 a1 a2 a3) (partitalaw16_SmfScale.f (k + 1) a0 a1 a2 a3) := by
  intro a0 a1 a2 a3 k
  obtain ⟨ih0, ih1⟩ := partitalaw16_SmfScale.mono_l k
  unfold partitalaw16_SmfScale.f
  repeat' first
      | (with_reducible exact ih0 _ _ _ _ _ _ _ _)
      | (with_reducible exact ih1 _ _ _ _ _ _)
      | (with_reducible exact key_Scale.mono _ _ _)
      | (with_reducible exact partitalaw16_examples.mono _)
      | (with_reducible exact smf_Parse.mono _ _)
      | (with_reducible exact smf_Print.mono _ _ _ _)
      | (with_reducible exact wire_Encode.mono _ _)
      | (with_reducible exact LeO.refl _)
      | (with_reducible exact LeO.none _)
      | (with_reducible refine LeO.ite ?_ ?_)
      | (with_reducible refine LeO.bind ?_ (fun _ => ?_))
      | exact ih0 _ _ _ _ _ _ _ _
      | exact ih1 _ _ _ _ _ _
      | exact key_Scale.mono _ _ _
      | exact partitalaw16_examples.mono _
      | exact smf_Parse.mono _ _
      | exact smf_Print.mono _ _ _ _
      | exact wire_Encode.mono _ _
      | exact LeO.none _
      | refine LeO.ite ?_ ?_
      | refine LeO.bind ?_ (fun _ => ?_)
def partitalaw16_SmfScale.T4 : Bool × List (List Nat × List Nat) := (true, [([], []), ([0], [0]), ([1], [1]), ([2], [2]), ([], []), ([4], [4]), ([3, 5], [3, 5]), ([], []), ([7, 6, 2, 0, 1, 2, 3, 4, 5, 6, 7], [6, 7])])
def partitalaw16_SmfScale.B4 : List Nat := [0, 1, 3, 7, 0, 16, 63, 0, 255]
theorem partitalaw16_SmfScale.tab4 : rtab .any (opsOf Tryd.f3 4) = partitalaw16_SmfScale.T4 := by kernel_rfl
theorem partitalaw16_SmfScale.bits4 : waitsOk partitalaw16_SmfScale.T4.2 partitalaw16_SmfScale.B4 = true := by kernel_rfl
set_option maxHeartbeats 8000000 in
set_option maxRecDepth 100000 in
theorem partitalaw16_SmfScale.calls (k : Nat) (a0_0 : Int) (a0_1 : Bool) (a1 : Int) (a2 : Int) (r : Bool) (w : World) (h : partitalaw16_SmfScale.f k a0_0 a0_1 a1 a2 = some r) (hG : Glob w) :
    Calls Tryd.prog 3 #[.agg #[.int .i64 a0_0, .bool a0_1], .int .i64 a1, .int .u8 a2] w fun e w' => e = .returned (.bool r) ∧ Below w.heap.size w w' := by
  have hu23 := Tryd.underlying23
  have hu32 := Tryd.underlying32
  have hu37 := Tryd.underlying37
  have hu39 := Tryd.underlying39
  have HB := Aside0.mk (Below.refl w.heap.size w)
  have H := h
  unfold partitalaw16_SmfScale.f at H
  clear h
  replace H := Option.bind_eq_some_iff.mp H
  obtain ⟨t102, A40, H⟩ := H
  try dsimp -simprocs only at H
  have A4 := Aside0.mk A40
  clear A40
  by_cases c5 : t102 = true
  rotate_left
  · replace c5 := Bool.eq_false_iff.mpr c5
    subst c5
    have H1 : (some false) = some r := by rw [if_neg (show ¬ (false = true) by decide)] at H; exact H
    clear H
    have H := H1
    clear H1
    obtain rfl := Option.some.inj H
    go_enter Tryd.func3, Tryd.ntmps3
    go_wp2_with (first | ((with_reducible refine gate_dst (N := 3) rfl ?_); (try (refine gate_guard (by rfl) ?_; dsimp only)); refine box_event ?hg (N := 3) ?hd (cs := #[.int .i64 a0_0, .bool a0_1]) (t := 23) ?hr ?_; (case hd => rfl); (case hg => rfl); (case hr => exact qq8); intro gb101 hg w144 hbox hb; have BK101 := Aside0.mk (hbox); have GW101 := Aside0.mk ((qq7 : w.heap.size ≤ gb101)); have GE101 := Aside0.mk ((qq7 : w.heap.size ≤ gb101)); replace HB := Aside0.mk (below_step (qB HB.out) hb); clear hb hbox hg) | ((with_reducible refine gate_callee (f := 4) rfl ?_); refine goesL_ (some 27) rfl rfl Tryd.func4 (by kernel_rfl) rfl #[] rfl qq0 ?_; (with_reducible refine (partitalaw16_examples.calls k  false _ A4.out).mono ?_); rintro e w145 ⟨rfl, hb⟩; refine ⟨_, rfl, ?_⟩; replace BK101 := Aside0.mk (blk_below (bq BK101.out) hb); replace HB := Aside0.mk (below_step (qS1 GE101 HB.out) hb); (try clear hb); (try clear hb2); (try clear hk); (try clear hi)))
    go_ret
    exact ⟨qq4, qS1 GE101 HB.out⟩
  subst c5
  have H1 : ((partitalaw16_pick.f a0_0 15).bind fun t103 => ((key_Scale.f k (wrap64 (t103 - 7)) a0_1).bind fun bt105 => ((partitalaw16_pick.f a1 32767).bind fun t109 => (partitalaw16_SmfScale.l0 k a2 true bt105.1 bt105.2 ([] : List (S39)) 0 0 (wrap64 (1 + t109)))))) = some r := by rw [if_pos rfl] at H; exact H
  clear H
  have H := H1
  clear H1
  replace H := Option.bind_eq_some_iff.mp H
  obtain ⟨t103, A60, H⟩ := H
  try dsimp -simprocs only at H
  have A6 := Aside0.mk A60
  clear A60
  replace H := Option.bind_eq_some_iff.mp H
  obtain ⟨⟨t105, t108⟩, A70, H⟩ := H
  try dsimp -simprocs only at H
  have A7 := Aside0.mk A70
  clear A70
  replace H := Option.bind_eq_some_iff.mp H
  obtain ⟨t109, A80, H⟩ := H
  try dsimp -simprocs only at H
  have A8 := Aside0.mk A80
  clear A80
  have H' := Aside0.mk H
  clear H
  go_enter Tryd.func3, Tryd.ntmps3
  try go_wp2_with (first | ((with_reducible refine gate_dst (N := 3) rfl ?_); (try (refine gate_guard (by rfl) ?_; dsimp only)); refine box_event ?hg (N := 3) ?hd (cs := #[.int .i64 a0_0, .bool a0_1]) (t := 23) ?hr ?_; (case hd => rfl); (case hg => rfl); (case hr => exact qq8); intro gb101 hg w9 hbox hb; have BK101 := Aside0.mk (hbox); have GW101 := Aside0.mk ((qq7 : w.heap.size ≤ gb101)); have GE101 := Aside0.mk ((qq7 : w.heap.size ≤ gb101)); replace HB := Aside0.mk (below_step (qB HB.out) hb); clear hb hbox hg) | ((with_reducible refine gate_callee (f := 4) rfl ?_); refine goesL_ (some 27) rfl rfl Tryd.func4 (by kernel_rfl) rfl #[] rfl qq0 ?_; (with_reducible refine (partitalaw16_examples.calls k  true _ A4.out).mono ?_); rintro e w10 ⟨rfl, hb⟩; refine ⟨_, rfl, ?_⟩; replace BK101 := Aside0.mk (blk_below (bq BK101.out) hb); replace HB := Aside0.mk (below_step (qS1 GE101 HB.out) hb); (try clear hb); (try clear hb2); (try clear hk); (try clear hi)))
  replace BK101 := Aside0.mk (blk_drew BK101.out)
  replace HB := Aside0.mk (below_drew1 HB.out)
  refine start_ (n := 9) (S := fun w' => w'.cell? ⟨gb101, 0, none⟩ = some (.int .i64 a0_0) ∧ w'.cell? ⟨gb101, 1, none⟩ = some (.bool a0_1)) (ds := []) #[false, false, false, false, false, false, false, false, false] (by kernel_rfl) rfl rfl ⟨(blk_cell BK101.out 0).trans rfl, (blk_cell BK101.out 1).trans rfl⟩ (fun hHeld => ?_); refine with_tabW partitalaw16_SmfScale.tab4 partitalaw16_SmfScale.bits4 (fun HT_ HW_ => ?_)
  generalize w10.drew = w11 at BK101 HB hHeld ⊢
  refine pureS 0 (some 30) (bs 1 9) ?_
  refine pureS 4 (some 34) (bs 17 9) ?_
  refine take_ (i := 1) (N := some 31) (v := ?_) (a' := ?_) (bs 19 9) rfl rfl (take_ofW HT_.out HW_.out (by kernel_rfl)) (fun _ _ _ h => h) (Or.inl ⟨by rfl, ?_⟩) hHeld ?_ ?_
  rotate_left
  · rintro w' ⟨s0, s1⟩
    go_simp
    with_reducible rfl
  rotate_left
  · simp only [Act.put, List.setIfInBounds_toArray, List.set_cons_zero, List.set_cons_succ, i64_w, i32_w]
    rfl
  refine take_ (i := 5) (N := some 35) (v := ?_) (a' := ?_) (bs 51 9) rfl rfl (take_ofW HT_.out HW_.out (by kernel_rfl)) (fun _ _ _ h => h) (Or.inl ⟨by rfl, ?_⟩) hHeld ?_ ?_
  rotate_left
  · rintro w' ⟨s0, s1⟩
    go_simp
    with_reducible rfl
  rotate_left
  · simp only [Act.put, List.setIfInBounds_toArray, List.set_cons_zero, List.set_cons_succ, i64_w, i32_w]
    rfl
  refine join_ (σ := Nat) 1 (bs 255 9) (fun s_ => [(32, .int .i64 t103), (8, .pointer (some ⟨s_, 0, none⟩)), (33, .int .i64 (wrap64 (t103 - 7))), (36, .agg #[.int .i64 (wrap64 (t103 - 7)), .bool a0_1])]) (fun s_ w' => (w'.cell? ⟨gb101, 0, none⟩ = some (.int .i64 a0_0) ∧ w'.cell? ⟨gb101, 1, none⟩ = some (.bool a0_1)) ∧ (w'.heap[gb101]? = some (.cells #[.int .i64 a0_0, .bool a0_1] 23 (0, 0))) ∧ (w'.heap[s_]? = some (.cells #[.int .i64 0, .bool false] 23 (0, 0))) ∧ (w.heap.size ≤ s_) ∧ (w.heap.size ≤ s_) ∧ (gb101 ≠ s_) ∧ (s_ ≠ gb101) ∧ (Below w.heap.size w w')) ?_ ?_
  rotate_left
  · intro hCont
    refine two_ (i := 2) (j := 7) (Ni := some 32) (Nj := some 8) (bs 55 9) (bs 179 9) rfl rfl rfl rfl (two_of HT_.out (by kernel_rfl)) (by decide) (by decide) (fun K hK => ?_) (fun K hK => ?_)
    · skip
      refine goes_ Tryd.func5 (by kernel_rfl) rfl #[.int .i64 a0_0, .int .i64 15] (by rfl) rfl rfl qq0 ?_
      with_reducible refine (partitalaw16_pick.calls a0_0 15 t103 _ A6.out).mono ?_
      rintro e w' ⟨rfl, ⟨nd, rfl⟩⟩
      refine ⟨_, rfl, ?_⟩
      refine hK.out _ _ ⟨(blk_cell BK101.out 0).trans rfl, (blk_cell BK101.out 1).trans rfl⟩ (fun hHeld => ?_)
      clear hK K
      refine normS (some 32) ?_
      refine pureS 3 (some 33) (bs 63 9) ?_
      refine pureS 6 (some 36) (bs 127 9) ?_
      refine one_ (i := 7) (N := some 8) (bs 255 9) rfl rfl (one_of HT_.out (by kernel_rfl)) (by decide) (fun K hK => ?_)
      refine box_step ?hg (N := 8) ?hd (cs := #[.int .i64 0, .bool false]) (t := 23) ?hr ?_; (case hd => rfl); (case hg => rfl); (case hr => exact qq8)
      intro gb104 hg w12 hbox hb
      have BK104 := Aside0.mk (hbox)
      have GW104 := Aside0.mk ((qqe : w.heap.size ≤ gb104))
      have GE104 := Aside0.mk ((qqe : w.heap.size ≤ gb104))
      replace HB := Aside0.mk (below_step (qS1 GE101 HB.out) hb)
      have NB101_104 := Aside0.mk ((qqc : gb101 ≠ gb104))
      have NB104_101 := Aside0.mk ((qqd : gb104 ≠ gb101))
      replace BK101 := Aside0.mk (blk_below (bq BK101.out) hb)
      clear hb hbox hg
      refine hK.out _ _ ⟨(blk_cell BK101.out 0).trans rfl, (blk_cell BK101.out 1).trans rfl⟩ (fun hHeld => ?_)
      clear hK K
      refine normS (some 8) ?_
      exact norm_ qqB (hCont (gb104) _ ⟨hHeld, (bq BK101.out), (bq BK104.out), GW104.out, GE104.out, NB101_104.out, NB104_101.out, (qS2 GE101 GE104 HB.out)⟩)
    skip
    refine box_step ?hg (N := 8) ?hd (cs := #[.int .i64 0, .bool false]) (t := 23) ?hr ?_; (case hd => rfl); (case hg => rfl); (case hr => exact qq8)
    intro gb104 hg w12 hbox hb
    have BK104 := Aside0.mk (hbox)
    have GW104 := Aside0.mk ((qqe : w.heap.size ≤ gb104))
    have GE104 := Aside0.mk ((qqe : w.heap.size ≤ gb104))
    replace HB := Aside0.mk (below_step (qS1 GE101 HB.out) hb)
    have NB101_104 := Aside0.mk ((qqc : gb101 ≠ gb104))
    have NB104_101 := Aside0.mk ((qqd : gb104 ≠ gb101))
    replace BK101 := Aside0.mk (blk_below (bq BK101.out) hb)
    clear hb hbox hg
    refine hK.out _ _ ⟨(blk_cell BK101.out 0).trans rfl, (blk_cell BK101.out 1).trans rfl⟩ (fun hHeld => ?_)
    clear hK K
    refine normS (some 8) ?_
    refine one_ (i := 2) (N := some 32) (bs 183 9) rfl rfl (one_of HT_.out (by kernel_rfl)) (by decide) (fun K hK => ?_)
    refine goes_ Tryd.func5 (by kernel_rfl) rfl #[.int .i64 a0_0, .int .i64 15] (by rfl) rfl rfl qq0 ?_
    with_reducible refine (partitalaw16_pick.calls a0_0 15 t103 _ A6.out).mono ?_
    rintro e w' ⟨rfl, ⟨nd, rfl⟩⟩
    refine ⟨_, rfl, ?_⟩
    refine hK.out _ _ ⟨(blk_cell BK101.out 0).trans rfl, (blk_cell BK101.out 1).trans rfl⟩ (fun hHeld => ?_)
    clear hK K
    refine normS (some 32) ?_
    refine pureS 3 (some 33) (bs 191 9) ?_
    refine pureS 6 (some 36) (bs 255 9) ?_
    exact norm_ qqB (hCont (gb104) _ ⟨hHeld, (bq BK101.out), (bq BK104.out), GW104.out, GE104.out, NB101_104.out, NB104_101.out, (qS2 GE101 GE104 HB.out)⟩)
  rintro gb104 w13 ⟨hS_, h0_, h1_, h2_, h3_, h4_, h5_, h6_⟩
  have n0_ : Aside0 (w13.heap[gb101]? = some (.cells #[.int .i64 a0_0, .bool a0_1] 23 (0, 0))) := ⟨h0_⟩
  have n1_ : Aside0 (w13.heap[gb104]? = some (.cells #[.int .i64 0, .bool false] 23 (0, 0))) := ⟨h1_⟩
  have n2_ : Aside0 (w.heap.size ≤ gb104) := ⟨h2_⟩
  have n3_ : Aside0 (w.heap.size ≤ gb104) := ⟨h3_⟩
  have n4_ : Aside0 (gb101 ≠ gb104) := ⟨h4_⟩
  have n5_ : Aside0 (gb104 ≠ gb101) := ⟨h5_⟩
  have n6_ : Aside0 (Below w.heap.size w w13) := ⟨h6_⟩
  clear BK101
  clear HB
  clear h0_ h1_ h2_ h3_ h4_ h5_ h6_
  have BK101 := n0_
  have BK104 := n1_
  have GW104 := n2_
  have GE104 := n3_
  have NB101_104 := n4_
  have NB104_101 := n5_
  have HB := n6_
  clear n0_ n1_ n2_ n3_ n4_ n5_ n6_
  have hHeld : w13.cell? ⟨gb101, 0, none⟩ = some (.int .i64 a0_0) ∧ w13.cell? ⟨gb101, 1, none⟩ = some (.bool a0_1) := hS_
  refine norm_ (a' := ?_) ?_ ?_
  rotate_left
  · simp only [putAll, Act.put, List.setIfInBounds_toArray, List.set_cons_zero, List.set_cons_succ]
    rfl
  refine one_ (i := 8) (N := none) (bs 511 9) rfl rfl (one_of HT_.out (by kernel_rfl)) (by decide) (fun K hK => ?_)
  have hs14 : w13.cell? ⟨gb104, 0, none⟩ = some (.int .i64 0) := (blk_cell BK104.out 0).trans rfl
  have hfs14 := blk_frozen BK104.out 0
  have hns14_0 := NB101_104.out
  have hms14_0 := NB104_101.out
  have hs15 : w13.cell? ⟨gb104, 1, none⟩ = some (.bool false) := (blk_cell BK104.out 1).trans rfl
  have hfs15 := blk_frozen BK104.out 1
  have hns15_0 := NB101_104.out
  have hms15_0 := NB104_101.out
  refine skip_ (w1 := ?_) (by rfl) rfl ?_ ?_
  rotate_left
  · go_simp
    rfl
  refine hK.out _ _ ⟨((cell_far (p := ⟨gb104, _, none⟩) NB101_104.out _).trans (((cell_far (p := ⟨gb104, _, none⟩) NB101_104.out _).trans (hHeld.1)))), ((cell_far (p := ⟨gb104, _, none⟩) NB101_104.out _).trans (((cell_far (p := ⟨gb104, _, none⟩) NB101_104.out _).trans (hHeld.2))))⟩ (fun hHeld => ?_)
  clear hK K
  refine done_ (done_of HT_.out (by kernel_rfl)) ?_
  have hnb16 := NB104_101.out
  have hnc16 := NB101_104.out
  obtain ⟨hcz17_0, hcz17_1, hfz17_0, hfz17_1⟩ := blk2 BK104.out
  try go_wp2_with (first | ((with_reducible refine gate_callee (f := 6) rfl ?_); refine goesL_ (some 39) rfl rfl Tryd.func6 (by kernel_rfl) rfl #[.agg #[.int .i64 (wrap64 (t103 - 7)), .bool a0_1]] rfl qq0 ?_; (with_reducible refine (key_Scale.calls k (wrap64 (t103 - 7)) a0_1 t105 t108 _ A7.out).mono ?_); rintro e w18 ⟨v106, rfl, ho0, hb⟩; refine ⟨_, rfl, ?_⟩; have HO107 := Aside0.mk (Kd.R_lower ho0 (below_size (qS2 GE101 GE104 HB.out))); replace BK101 := Aside0.mk (blk_below (g := gb101) (o := .cells #[.int .i64 a0_0, .bool a0_1] 23 (0, 0)) (by refine bq ?_; refine blk_far ?_ NB101_104.out _; refine bq ?_; refine blk_far ?_ NB101_104.out _; exact bq BK101.out) hb); replace BK104 := Aside0.mk (blk_below (g := gb104) (o := .cells #[.int .i64 (wrap64 (t103 - 7)), .bool a0_1] 23 (0, 0)) (by refine bq ?_; refine blk_put (cs := #[.int .i64 (wrap64 (t103 - 7)), .bool false]) ?_ 1 _ rfl; refine bq ?_; refine blk_put (cs := #[.int .i64 0, .bool false]) ?_ 0 _ rfl; exact bq BK104.out) hb); replace HB := Aside0.mk (below_step (qS2 GE101 GE104 HB.out) hb); (try clear hb); (try clear hb2); (try clear hk); (try clear hi); (try clear ho0)) | ((with_reducible refine gate_callee (f := 5) rfl ?_); refine goesL_ (some 43) rfl rfl Tryd.func5 (by kernel_rfl) rfl #[.int .i64 a1, .int .i64 32767] rfl qq0 ?_; (with_reducible refine (partitalaw16_pick.calls a1 32767 t109 _ A8.out).mono ?_); rintro e w' ⟨rfl, ⟨nd, rfl⟩⟩; refine ⟨_, rfl, ?_⟩; (try (rw [drewN_self w18]; generalize hq_ : World.drewN w18 _ = w18; have n0_ : Aside0 (Kd.R k37 37 w18 w.heap.size (fun _ => True) v106 t105) := ⟨by rw [← hq_]; exact (qR HO107.out)⟩; have n1_ : Aside0 (w18.heap[gb101]? = some (.cells #[.int .i64 a0_0, .bool a0_1] 23 (0, 0))) := ⟨by rw [← hq_]; exact (bq BK101.out)⟩; have n2_ : Aside0 (w18.heap[gb104]? = some (.cells #[.int .i64 (wrap64 (t103 - 7)), .bool a0_1] 23 (0, 0))) := ⟨by rw [← hq_]; exact (bq BK104.out)⟩; have n3_ : Aside0 (Below w.heap.size w w18) := ⟨by rw [← hq_]; exact (qS2 GE101 GE104 HB.out)⟩; clear HO107 BK101 BK104 HB hq_; have HO107 := n0_; have BK101 := n1_; have BK104 := n2_; have HB := n3_; clear n0_ n1_ n2_ n3_))) | ((with_reducible refine gate_dst (N := 11) rfl ?_); (try (refine gate_guard (by rfl) ?_; dsimp only)); refine box_event ?hg (N := 11) ?hd (cs := #[.int .i64 0, .int .i64 0, .slice none 0 0]) (t := 32) ?hr ?_; (case hd => rfl); (case hg => rfl); (case hr => exact qq8); intro gb110 hg w19 hbox hb; replace HO107 := Aside0.mk (Kd.R_below (qR HO107.out) hb); have BK110 := Aside0.mk (hbox); have GW110 := Aside0.mk ((by rw [hg]; exact (below_size (qS2 GE101 GE104 HB.out)) : w.heap.size ≤ gb110)); have GE110 := Aside0.mk ((by rw [hg]; exact (below_size (qS2 GE101 GE104 HB.out)) : w.heap.size ≤ gb110)); replace HB := Aside0.mk (below_step (qS2 GE101 GE104 HB.out) hb); have NB101_110 := Aside0.mk ((qqc : gb101 ≠ gb110)); have NB110_101 := Aside0.mk ((qqd : gb110 ≠ gb101)); replace BK101 := Aside0.mk (blk_below (bq BK101.out) hb); have NB104_110 := Aside0.mk ((by rw [hg]; exact Nat.ne_of_lt (blk_lt (bq BK104.out)) : gb104 ≠ gb110)); have NB110_104 := Aside0.mk ((by rw [hg]; exact Nat.ne_of_gt (blk_lt (bq BK104.out)) : gb110 ≠ gb104)); replace BK104 := Aside0.mk (blk_below (bq BK104.out) hb); clear hb hbox hg; have hnb20 := NB110_101.out; have hnc20 := NB101_110.out; have hnb21 := NB110_104.out; have hnc21 := NB104_110.out; obtain ⟨hcz22_0, hcz22_1, hcz22_2, hfz22_0, hfz22_1, hfz22_2⟩ := blk3 BK110.out))
  go_loopg [12, 13] k (fun kq v12 v13 w' => ∃ (x12_1 : List (S39)) (x13_1 : Int), v13 = .int .i64 x13_1 ∧ Aside0 (partitalaw16_SmfScale.l0 kq a2 true t105 t108 x12_1 x13_1 0 (wrap64 (1 + t109)) = some r) ∧ Aside0 (kq ≤ k) ∧ Aside0 (Kd.R k37 37 w' w.heap.size (fun _ => True) v106 t105) ∧ Aside0 (Kd.R k39 39 w' w.heap.size (fun _ => True) v12 x12_1) ∧ Aside0 (w'.heap[gb101]? = some (.cells #[.int .i64 a0_0, .bool a0_1] 23 (0, 0))) ∧ Aside0 (w'.heap[gb104]? = some (.cells #[.int .i64 (wrap64 (t103 - 7)), .bool a0_1] 23 (0, 0))) ∧ Aside0 (w'.heap[gb110]? = some (.cells #[.int .i64 0, .int .i64 (wrap64 (1 + t109)), (.slice none 0 0)] 32 (0, 0))) ∧ Aside0 (Below w.heap.size w w'))
  case atStart => exact ⟨(([] : List (S39))), (0), qq6, H', ⟨Nat.le_refl _⟩, ⟨by (with_reducible repeat (first | apply Kd.R_alloc | apply Kd.R_drewN | apply Kd.R_drew)); exact Kd.R_mono (Kd.R_far (p := ⟨gb110, 2, none⟩) (Kd.R_far (p := ⟨gb110, 1, none⟩) (Kd.R_far (p := ⟨gb110, 0, none⟩) (Kd.R_types HO107.out BK110.out (by decide)) (fun _ hk => hk.2) (.int .i64 0)) (fun _ hk => hk.2) (.int .i64 (wrap64 (1 + t109)))) (fun _ hk => hk.2) (.slice none 0 0)) (fun _ hk => trivial)⟩, ⟨qqy⟩, ⟨by (with_reducible repeat (first | refine blk_drewN ?_ _ | refine blk_drew ?_ | refine blk_alloc ?_ _)); refine blk_far ?_ NB101_110.out _; (with_reducible repeat (first | refine blk_drewN ?_ _ | refine blk_drew ?_ | refine blk_alloc ?_ _)); refine blk_far ?_ NB101_110.out _; (with_reducible repeat (first | refine blk_drewN ?_ _ | refine blk_drew ?_ | refine blk_alloc ?_ _)); refine blk_far ?_ NB101_110.out _; (with_reducible repeat (first | refine blk_drewN ?_ _ | refine blk_drew ?_ | refine blk_alloc ?_ _)); exact BK101.out⟩, ⟨by (with_reducible repeat (first | refine blk_drewN ?_ _ | refine blk_drew ?_ | refine blk_alloc ?_ _)); refine blk_far ?_ NB104_110.out _; (with_reducible repeat (first | refine blk_drewN ?_ _ | refine blk_drew ?_ | refine blk_alloc ?_ _)); refine blk_far ?_ NB104_110.out _; (with_reducible repeat (first | refine blk_drewN ?_ _ | refine blk_drew ?_ | refine blk_alloc ?_ _)); refine blk_far ?_ NB104_110.out _; (with_reducible repeat (first | refine blk_drewN ?_ _ | refine blk_drew ?_ | refine blk_alloc ?_ _)); exact BK104.out⟩, ⟨by (with_reducible repeat (first | refine blk_drewN ?_ _ | refine blk_drew ?_ | refine blk_alloc ?_ _)); refine blk_put (cs := #[.int .i64 0, .int .i64 (wrap64 (1 + t109)), .slice none 0 0]) ?_ 2 _ rfl; (with_reducible repeat (first | refine blk_drewN ?_ _ | refine blk_drew ?_ | refine blk_alloc ?_ _)); refine blk_put (cs := #[.int .i64 0, .int .i64 0, .slice none 0 0]) ?_ 1 _ rfl; (with_reducible repeat (first | refine blk_drewN ?_ _ | refine blk_drew ?_ | refine blk_alloc ?_ _)); refine blk_put (cs := #[.int .i64 0, .int .i64 0, .slice none 0 0]) ?_ 0 _ rfl; (with_reducible repeat (first | refine blk_drewN ?_ _ | refine blk_drew ?_ | refine blk_alloc ?_ _)); exact BK110.out⟩, ⟨qS3 GE101 GE104 GE110 HB.out⟩⟩
  case round =>
    clear H'
    try clear c1
    try clear c2
    try clear p2
    try clear c3
    try clear c4
    try clear c5
    try clear c6
    try clear p6
    try clear c16
    try clear c20
    try clear c21
    try clear hcz17_0
    try clear hcz17_1
    try clear hcz22_0
    try clear hcz22_1
    try clear hcz22_2
    try clear hfz17_0
    try clear hfz17_1
    try clear hfz22_0
    try clear hfz22_1
    try clear hfz22_2
    obtain ⟨x12_1, x13_1, rfl, HA, HK1, HO_9, HO_12, BK101, BK104, BK110, HB⟩ := hrel
    cases gk with
    | zero => exact absurd HA.out (by simp [partitalaw16_SmfScale.l0])
    | succ k1 =>
      have H := HA.out
      clear HA
      simp only [partitalaw16_SmfScale.l0] at H
      by_cases c23 : x13_1 < (t105.length : Int)
      · rw [if_pos c23] at H
        have c23b0 : decide (x13_1 < (t105.length : Int)) = true := decide_eq_true c23
        clear c23
        by_cases c24 : 0 ≤ x13_1
        rotate_left
        · rw [if_neg c24] at H
          exact absurd H (by simp)
        rw [if_pos c24] at H
        have c24b0 : decide (0 ≤ x13_1) = true := decide_eq_true c24
        clear c24
        replace H := Option.bind_eq_some_iff.mp H
        obtain ⟨⟨t112, t113⟩, A250, H⟩ := H
        try dsimp -simprocs only at H
        have A25 := Aside0.mk A250
        clear A250
        by_cases c26 : t113 = 0
        rotate_left
        · rw [if_neg c26] at H
          have c26b0 : (t113 == 0) = false := beq_eq_false_iff_ne.mpr c26
          have c26b1 : (t113 != 0) = true := bne_iff_ne.mpr c26
          obtain rfl := Option.some.inj H
          obtain ⟨Ao37, co37, eo37⟩ := Kd.R_slice HO_9.out
          subst eo37
          have p111 : 0 ≤ (x13_1 : Int) := of_decide_eq_true qq3
          have q111 : x13_1 < (t105.length : Int) := of_decide_eq_true qq3
          obtain ⟨ad111, e111, hx111_0, hx111_1, hx111_2⟩ := at_T37 (Kd.R_reads' HO_9.out).2.2 x13_1 p111 q111
          cases e111
          replace p111 := eq_true p111
          replace q111 := eq_true q111
          go_wp2_with (first | ((with_reducible refine gate_callee (f := 7) rfl ?_); refine goesL_ (some 57) rfl rfl Tryd.func7 (by kernel_rfl) rfl #[.agg #[.int .i64 ((rd_T37 t105 x13_1).f0), .int .i64 ((rd_T37 t105 x13_1).f1), .int .i64 ((rd_T37 t105 x13_1).f2)]] rfl qq0 ?_; (with_reducible refine (pitch_Number.calls ((rd_T37 t105 x13_1).f0) ((rd_T37 t105 x13_1).f1) ((rd_T37 t105 x13_1).f2) t112 t113 _ A25.out ?sideG).mono ?_); (case sideG => exact Glob.at hG (qS3 GE101 GE104 GE110 HB.out)); rintro e w38 ⟨rfl, hb⟩; refine ⟨_, rfl, ?_⟩; replace HO_9 := Aside0.mk (Kd.R_below (qR HO_9.out) hb); replace HO_12 := Aside0.mk (Kd.R_below (qR HO_12.out) hb); replace BK101 := Aside0.mk (blk_below (bq BK101.out) hb); replace BK104 := Aside0.mk (blk_below (bq BK104.out) hb); replace BK110 := Aside0.mk (blk_below (bq BK110.out) hb); replace HB := Aside0.mk (below_step (qS3 GE101 GE104 GE110 HB.out) hb); (try clear hb); (try clear hb2); (try clear hk); (try clear hi)))
          go_ret
          exact ⟨qq4, qS3 GE101 GE104 GE110 HB.out⟩
        rw [if_pos c26] at H
        have c26b0 : (t113 == 0) = true := beq_iff_eq.mpr c26
        have c26b1 : (t113 != 0) = false := bne_eq_false_iff_eq.mpr c26
        clear c26
        obtain ⟨y114, hy114⟩ : ∃ y_ : List (S39), y_ = (([(⟨0, 9, wrap64 (Int.tmod a2 16), t112, 64, (⟨#[]⟩ : ByteArray)⟩ : S39), (⟨(wrap64 (1 + t109)), 9, wrap64 (Int.tmod a2 16), t112, 0, (⟨#[]⟩ : ByteArray)⟩ : S39)] : List (S39))) := ⟨_, rfl⟩
        replace H : (if x12_1.length + y114.length < 2513169434916 then (partitalaw16_SmfScale.l0 k1 a2 true t105 t108 (x12_1 ++ y114) (wrap64 (x13_1 + 1)) 0 (wrap64 (1 + t109))) else (none)) = some r := by first | (rw [hy114]; with_reducible exact H) | (have H2_ := (Option.bind_some _ _).symm.trans H; rw [hy114]; with_reducible exact H2_) | (have H2_ := (Option.bind_some _ _).symm.trans H; with_reducible exact H2_) | with_reducible exact H | (rw [hy114]; exact H) | exact H
        have Ny114 := Aside0.mk hy114
        clear hy114
        by_cases c27 : x12_1.length + y114.length < 2513169434916
        rotate_left
        · rw [if_neg c27] at H
          exact absurd H (by simp)
        rw [if_pos c27] at H
        have LMc27 := Aside0.mk c27
        clear c27
        obtain ⟨y117, hy117⟩ : ∃ y_ : List (S39), y_ = (x12_1 ++ y114) := ⟨_, rfl⟩
        replace H : (partitalaw16_SmfScale.l0 k1 a2 true t105 t108 y117 (wrap64 (x13_1 + 1)) 0 (wrap64 (1 + t109))) = some r := by first | (rw [hy117]; with_reducible exact H) | (have H2_ := (Option.bind_some _ _).symm.trans H; rw [hy117]; with_reducible exact H2_) | (have H2_ := (Option.bind_some _ _).symm.trans H; with_reducible exact H2_) | with_reducible exact H | (rw [hy117]; exact H) | exact H
        have Ny117 := Aside0.mk hy117
        clear hy117
        have H' := Aside0.mk H
        clear H
        obtain ⟨Ao28, co28, eo28⟩ := Kd.R_slice HO_9.out
        subst eo28
        have p111 : 0 ≤ (x13_1 : Int) := of_decide_eq_true qq3
        have q111 : x13_1 < (t105.length : Int) := of_decide_eq_true qq3
        obtain ⟨ad111, e111, hx111_0, hx111_1, hx111_2⟩ := at_T37 (Kd.R_reads' HO_9.out).2.2 x13_1 p111 q111
        cases e111
        replace p111 := eq_true p111
        replace q111 := eq_true q111
        go_wp2_with (first | ((with_reducible refine gate_callee (f := 7) rfl ?_); refine goesL_ (some 57) rfl rfl Tryd.func7 (by kernel_rfl) rfl #[.agg #[.int .i64 ((rd_T37 t105 x13_1).f0), .int .i64 ((rd_T37 t105 x13_1).f1), .int .i64 ((rd_T37 t105 x13_1).f2)]] rfl qq0 ?_; (with_reducible refine (pitch_Number.calls ((rd_T37 t105 x13_1).f0) ((rd_T37 t105 x13_1).f1) ((rd_T37 t105 x13_1).f2) t112 t113 _ A25.out ?sideG).mono ?_); (case sideG => exact Glob.at hG (qS3 GE101 GE104 GE110 HB.out)); rintro e w29 ⟨rfl, hb⟩; refine ⟨_, rfl, ?_⟩; replace HO_9 := Aside0.mk (Kd.R_below (qR HO_9.out) hb); replace HO_12 := Aside0.mk (Kd.R_below (qR HO_12.out) hb); replace BK101 := Aside0.mk (blk_below (bq BK101.out) hb); replace BK104 := Aside0.mk (blk_below (bq BK104.out) hb); replace BK110 := Aside0.mk (blk_below (bq BK110.out) hb); replace HB := Aside0.mk (below_step (qS3 GE101 GE104 GE110 HB.out) hb); (try clear hb); (try clear hb2); (try clear hk); (try clear hi); have hnb30 := NB110_101.out; have hnc30 := NB101_110.out; have hnb31 := NB110_104.out; have hnc31 := NB104_110.out; obtain ⟨hcz32_0, hcz32_1, hcz32_2, hfz32_0, hfz32_1, hfz32_2⟩ := blk3 BK110.out) | ((with_reducible refine gate_dst (N := 75) rfl ?_); (try (refine gate_guard (by rfl) ?_; dsimp only)); refine Kd.R_lit k39 _ 39 ?hg (N := 75) ?hd (xs := ([(⟨0, 9, wrap64 (Int.tmod a2 16), t112, 64, (⟨#[]⟩ : ByteArray)⟩ : S39), (⟨(wrap64 (1 + t109)), 9, wrap64 (Int.tmod a2 16), t112, 0, (⟨#[]⟩ : ByteArray)⟩ : S39)] : List (S39))) (inner := [.int .i64 0, .int .i64 9, .int .i64 (wrap64 (Int.tmod a2 16)), .int .i64 t112, .int .i64 64, .string (⟨#[]⟩ : ByteArray), .int .i64 (wrap64 (1 + t109)), .int .i64 9, .int .i64 (wrap64 (Int.tmod a2 16)), .int .i64 t112, .int .i64 0, .string (⟨#[]⟩ : ByteArray)]) (ok := fun _ => True) (okp := fun _ => True) ?hr ?hp (fun _ hk => hk) trivial (Below.refl _ _) (Nat.le_refl _) (by simp) ?_; (case hd => rfl); (case hg => rfl); (case hr => exact qq8); (case hp => exact (Reps.c6 (show Kd.M k39 _ _ _ (⟨0, 9, wrap64 (Int.tmod a2 16), t112, 64, (⟨#[]⟩ : ByteArray)⟩ : S39) [.int .i64 0, .int .i64 9, .int .i64 (wrap64 (Int.tmod a2 16)), .int .i64 t112, .int .i64 64, .string (⟨#[]⟩ : ByteArray)] from (k39_mkM _ _ _ (⟨0, 9, wrap64 (Int.tmod a2 16), t112, 64, (⟨#[]⟩ : ByteArray)⟩ : S39) )) (Reps.c6 (show Kd.M k39 _ _ _ (⟨(wrap64 (1 + t109)), 9, wrap64 (Int.tmod a2 16), t112, 0, (⟨#[]⟩ : ByteArray)⟩ : S39) [.int .i64 (wrap64 (1 + t109)), .int .i64 9, .int .i64 (wrap64 (Int.tmod a2 16)), .int .i64 t112, .int .i64 0, .string (⟨#[]⟩ : ByteArray)] from (k39_mkM _ _ _ (⟨(wrap64 (1 + t109)), 9, wrap64 (Int.tmod a2 16), t112, 0, (⟨#[]⟩ : ByteArray)⟩ : S39) )) (Reps.none _ _)))); intro v115 w33 ho34 hb hg_ hnew_; clear hg_ hnew_; (first | rw [← Ny114.out] at ho34 | (simp only [Int.reduceToNat] at ho34; rw [← Ny114.out] at ho34)); replace HO_9 := Aside0.mk (Kd.R_below (qR HO_9.out) hb); have HO116 := Aside0.mk (Kd.R_lower (Kd.R_new' ho34 (Kd.R_lt (qR HO_12.out))) (below_size (qS3 GE101 GE104 GE110 HB.out))); replace HO_12 := Aside0.mk (Kd.R_elder' (qR HO_12.out) (Kd.R_base ho34) hb); replace BK101 := Aside0.mk (blk_below (bq BK101.out) hb); replace BK104 := Aside0.mk (blk_below (bq BK104.out) hb); replace BK110 := Aside0.mk (blk_below (bq BK110.out) hb); replace HB := Aside0.mk (below_step (qS3 GE101 GE104 GE110 HB.out) hb); clear hb ho34; obtain ⟨Ao36, co36, eo36⟩ := Kd.R_slice HO116.out; subst eo36) | ((with_reducible refine gate_builtin (b := .append) (xs := #[.tmp 62, .tmp 75]) rfl ?_); (try (refine gate_guard (by rfl) ?_; dsimp only)); at_builtin; refine Kd.R_append_rows k39 (w0 := w) w.heap.size rfl (.tmp 62) (.tmp 75) 33 39 (.agg #[(.int .i64 0), (.int .i64 0), (.int .i64 0), (.int .i64 0), (.int .i64 0), (.string ⟨#[]⟩)]) 56 rfl Tryd.underlying33 info39 rfl (by decide) (by omega) u12 x12_1 y114 _ _ _ (fun k_ => some k_ ≠ (.slice Ao36 y114.length co36 : Value).ownBlock) (fun _ => False) rfl rfl ?aO ?aR (fun _ _ h => h) (fun _ h => h.elim) ?aF ?aB ?aS ?aL ?_; (case aR => repeat (first | exact (Kd.R_reads' HO116.out).2.2 | (with_reducible refine Kd.C_alloc ?_ _) | (with_reducible refine Kd.C_drewN ?_ _) | (with_reducible refine Kd.C_drew ?_))); (case aB => exact (qS3 GE101 GE104 GE110 HB.out)); (case aF => exact (fun k_ hk => Kd.fresh' (Kd.R_lt (qR HO116.out)) k_ hk)); (case aO => exact (by (with_reducible repeat (first | apply Kd.R_alloc | apply Kd.R_drewN | apply Kd.R_drew)); exact Kd.R_mono HO_12.out (fun _ hk => hk.2))); (case aS => exact (below_size (qS3 GE101 GE104 GE110 HB.out))); (case aL => have := LMc27.out; omega); intro v118 w35 ho hb hg hat; rw [← Ny117.out] at ho; replace HO_9 := Aside0.mk (Kd.R_over' (qR HO_9.out) (Kd.R_typed (qR HO_12.out)) (by decide) hg); replace BK101 := Aside0.mk (blk_grown (bq BK101.out) hg (Kd.R_ne HO_12.out BK101.out (by decide))); replace BK104 := Aside0.mk (blk_grown (bq BK104.out) hg (Kd.R_ne HO_12.out BK104.out (by decide))); replace BK110 := Aside0.mk (blk_grown (bq BK110.out) hg (Kd.R_ne HO_12.out BK110.out (by decide))); replace HO116 := Aside0.mk (Kd.R_after (ok := (fun _ => True)) (qR HO116.out) hg hat); replace HB := Aside0.mk (hb); have HO119 := Aside0.mk (ho); clear HO_12; clear ho hb hg hat))
        go_roundg k1
        case measure => have := HK1.out; omega
        case rel => exact ⟨(y117), (wrap64 (x13_1 + 1)), qq6, H', ⟨qqm⟩, ⟨qR HO_9.out⟩, ⟨qR (Kd.R_mono HO119.out (fun _ hk => trivial))⟩, ⟨bq BK101.out⟩, ⟨bq BK104.out⟩, ⟨bq BK110.out⟩, ⟨qS3 GE101 GE104 GE110 HB.out⟩⟩
      rw [if_neg c23] at H
      have c23b0 : decide (x13_1 < (t105.length : Int)) = false := decide_eq_false c23
      clear c23
      replace H := Option.bind_eq_some_iff.mp H
      obtain ⟨⟨t120, t121, t122, t123, t124, t125⟩, A390, H⟩ := H
      try dsimp -simprocs only at H
      have A39 := Aside0.mk A390
      clear A390
      by_cases c40 : x12_1.length < 2513169434916
      rotate_left
      · rw [if_neg c40] at H
        exact absurd H (by simp)
      rw [if_pos c40] at H
      have LMc40 := Aside0.mk c40
      clear c40
      obtain ⟨y126, hy126⟩ : ∃ y_ : List (S39), y_ = (x12_1 ++ [(⟨t120, t121, t122, t123, t124, t125⟩ : S39)]) := ⟨_, rfl⟩
      replace H : ((some (([y126] : List (List (S39))) : List (List (S39)))).bind fun y129 => ((smf_Print.f k1 0 (wrap64 (1 + t109)) y129).bind fun bt132 => ((smf_Parse.f k1 bt132.1).bind fun bt134 => (if 0 < (y129.length : Int) then ((wire_Encode.f k1 (rd_L4 y129 0)).bind fun bt143 => (if t108 = 0 then (if bt132.2 = 0 then (if bt134.2.2.2.2 = 0 then (if bt134.2.2.2.1 = 0 then (if bt143.2 = 0 then (if (t105.length : Int) = 7 then (if (bt134.2.2.1.length : Int) = 1 then (if 0 < (bt134.2.2.1.length : Int) then (if ((rd_L4 bt134.2.2.1 0).length : Int) = 15 then (if (bt132.1.size : Int) = (wrap64 (22 + (bt143.1.size : Int))) then (partitalaw16_SmfScale.l1 k1 true (-1) 0 bt134.1 bt134.2.1 bt134.2.2.1) else (some false)) else (none)) else (none)) else (none)) else (none)) else (none)) else (none)) else (none)) else (none)) else (none))) else (none))))) = some r := by first | (rw [hy126]; with_reducible exact H) | (have H2_ := (Option.bind_some _ _).symm.trans H; rw [hy126]; with_reducible exact H2_) | (have H2_ := (Option.bind_some _ _).symm.trans H; with_reducible exact H2_) | with_reducible exact H | (rw [hy126]; exact H) | exact H
      have Ny126 := Aside0.mk hy126
      clear hy126
      obtain ⟨y129, hy129⟩ : ∃ y_ : List (List (S39)), y_ = (([y126] : List (List (S39)))) := ⟨_, rfl⟩
      replace H : ((smf_Print.f k1 0 (wrap64 (1 + t109)) y129).bind fun bt132 => ((smf_Parse.f k1 bt132.1).bind fun bt134 => (if 0 < (y129.length : Int) then ((wire_Encode.f k1 (rd_L4 y129 0)).bind fun bt143 => (if t108 = 0 then (if bt132.2 = 0 then (if bt134.2.2.2.2 = 0 then (if bt134.2.2.2.1 = 0 then (if bt143.2 = 0 then (if (t105.length : Int) = 7 then (if (bt134.2.2.1.length : Int) = 1 then (if 0 < (bt134.2.2.1.length : Int) then (if ((rd_L4 bt134.2.2.1 0).length : Int) = 15 then (if (bt132.1.size : Int) = (wrap64 (22 + (bt143.1.size : Int))) then (partitalaw16_SmfScale.l1 k1 true (-1) 0 bt134.1 bt134.2.1 bt134.2.2.1) else (some false)) else (none)) else (none)) else (none)) else (none)) else (none)) else (none)) else (none)) else (none)) else (none))) else (none)))) = some r := by first | (rw [hy129]; with_reducible exact H) | (have H2_ := (Option.bind_some _ _).symm.trans H; rw [hy129]; with_reducible exact H2_) | (have H2_ := (Option.bind_some _ _).symm.trans H; with_reducible exact H2_) | with_reducible exact H | (rw [hy129]; exact H) | exact H
      have Ny129 := Aside0.mk hy129
      clear hy129
      replace H := Option.bind_eq_some_iff.mp H
      obtain ⟨⟨t132, t133⟩, A410, H⟩ := H
      try dsimp -simprocs only at H
      have A41 := Aside0.mk A410
      clear A410
      replace H := Option.bind_eq_some_iff.mp H
      obtain ⟨⟨t134, t135, t136, t139, t140⟩, A420, H⟩ := H
      try dsimp -simprocs only at H
      have A42 := Aside0.mk A420
      clear A420
      by_cases c43 : 0 < (y129.length : Int)
      rotate_left
      · rw [if_neg c43] at H
        exact absurd H (by simp)
      rw [if_pos c43] at H
      have c43b0 : decide (0 < (y129.length : Int)) = true := decide_eq_true c43
      have c43b1 : decide (0 < y129.length) = true := decide_eq_true (by omega)
      clear c43
      replace H := Option.bind_eq_some_iff.mp H
      obtain ⟨⟨t143, t144⟩, A440, H⟩ := H
      try dsimp -simprocs only at H
      have A44 := Aside0.mk A440
      clear A440
      by_cases c45 : t108 = 0
      rotate_left
      · rw [if_neg c45] at H
        exact absurd H (by simp)
      rw [if_pos c45] at H
      have c45b0 : (t108 == 0) = true := beq_iff_eq.mpr c45
      have c45b1 : (t108 != 0) = false := bne_eq_false_iff_eq.mpr c45
      clear c45
      by_cases c46 : t133 = 0
      rotate_left
      · rw [if_neg c46] at H
        exact absurd H (by simp)
      rw [if_pos c46] at H
      have c46b0 : (t133 == 0) = true := beq_iff_eq.mpr c46
      have c46b1 : (t133 != 0) = false := bne_eq_false_iff_eq.mpr c46
      clear c46
      by_cases c47 : t140 = 0
      rotate_left
      · rw [if_neg c47] at H
        exact absurd H (by simp)
      rw [if_pos c47] at H
      have c47b0 : (t140 == 0) = true := beq_iff_eq.mpr c47
      have c47b1 : (t140 != 0) = false := bne_eq_false_iff_eq.mpr c47
      clear c47
      by_cases c48 : t139 = 0
      rotate_left
      · rw [if_neg c48] at H
        exact absurd H (by simp)
      rw [if_pos c48] at H
      have c48b0 : (t139 == 0) = true := beq_iff_eq.mpr c48
      have c48b1 : (t139 != 0) = false := bne_eq_false_iff_eq.mpr c48
      clear c48
      by_cases c49 : t144 = 0
      rotate_left
      · rw [if_neg c49] at H
        exact absurd H (by simp)
      rw [if_pos c49] at H
      have c49b0 : (t144 == 0) = true := beq_iff_eq.mpr c49
      have c49b1 : (t144 != 0) = false := bne_eq_false_iff_eq.mpr c49
      clear c49
      by_cases c50 : (t105.length : Int) = 7
      rotate_left
      · rw [if_neg c50] at H
        exact absurd H (by simp)
      rw [if_pos c50] at H
      have c50b0 : ((t105.length : Int) == 7) = true := beq_iff_eq.mpr c50
      have c50b1 : ((t105.length : Int) != 7) = false := bne_eq_false_iff_eq.mpr c50
      clear c50
      by_cases c51 : (t136.length : Int) = 1
      rotate_left
      · rw [if_neg c51] at H
        exact absurd H (by simp)
      rw [if_pos c51] at H
      have c51b0 : ((t136.length : Int) == 1) = true := beq_iff_eq.mpr c51
      have c51b1 : ((t136.length : Int) != 1) = false := bne_eq_false_iff_eq.mpr c51
      clear c51
      by_cases c52 : 0 < (t136.length : Int)
      rotate_left
      · rw [if_neg c52] at H
        exact absurd H (by simp)
      rw [if_pos c52] at H
      have c52b0 : decide (0 < (t136.length : Int)) = true := decide_eq_true c52
      have c52b1 : decide (0 < t136.length) = true := decide_eq_true (by omega)
      clear c52
      by_cases c53 : ((rd_L4 t136 0).length : Int) = 15
      rotate_left
      · rw [if_neg c53] at H
        exact absurd H (by simp)
      rw [if_pos c53] at H
      have c53b0 : (((rd_L4 t136 0).length : Int) == 15) = true := beq_iff_eq.mpr c53
      have c53b1 : (((rd_L4 t136 0).length : Int) != 15) = false := bne_eq_false_iff_eq.mpr c53
      clear c53
      by_cases c54 : (t132.size : Int) = (wrap64 (22 + (t143.size : Int)))
      rotate_left
      · rw [if_neg c54] at H
        have c54b0 : ((t132.size : Int) == (wrap64 (22 + (t143.size : Int)))) = false := beq_eq_false_iff_ne.mpr c54
        have c54b1 : ((t132.size : Int) != (wrap64 (22 + (t143.size : Int)))) = true := bne_iff_ne.mpr c54
        obtain rfl := Option.some.inj H
        obtain ⟨Ao122, co122, eo122⟩ := Kd.R_slice HO_9.out
        subst eo122
        go_wp2_with (first | ((with_reducible refine gate_callee (f := 8) rfl ?_); refine goesL_ (some 78) rfl rfl Tryd.func8 (by kernel_rfl) rfl #[.int .i64 0] rfl qq0 ?_; (with_reducible refine (partitalaw16_End.calls 0 t120 t121 t122 t123 t124 t125 _ A39.out).mono ?_); rintro e w123 ⟨rfl, hb⟩; refine ⟨_, rfl, ?_⟩; replace HO_9 := Aside0.mk (Kd.R_below (qR HO_9.out) hb); replace HO_12 := Aside0.mk (Kd.R_below (qR HO_12.out) hb); replace BK101 := Aside0.mk (blk_below (bq BK101.out) hb); replace BK104 := Aside0.mk (blk_below (bq BK104.out) hb); replace BK110 := Aside0.mk (blk_below (bq BK110.out) hb); replace HB := Aside0.mk (below_step (qS3 GE101 GE104 GE110 HB.out) hb); (try clear hb); (try clear hb2); (try clear hk); (try clear hi)) | ((with_reducible refine gate_builtin (b := .append) (xs := #[.tmp 77, .tmp 79]) rfl ?_); (try (refine gate_guard (by rfl) ?_; dsimp only)); at_builtin; refine Kd.R_append k39 (w0 := w) w.heap.size rfl (.tmp 77) (.tmp 79) 33 39 (.agg #[(.int .i64 0), (.int .i64 0), (.int .i64 0), (.int .i64 0), (.int .i64 0), (.string ⟨#[]⟩)]) 56 rfl Tryd.underlying33 info39 rfl (by decide) (by omega) u12 x12_1 (⟨t120, t121, t122, t123, t124, t125⟩ : S39) [.int .i64 t120, .int .i64 t121, .int .i64 t122, .int .i64 t123, .int .i64 t124, .string t125] (fun _ => True) (fun _ => False) rfl rfl ?aP (fun _ hk => hk.elim) ?aF ?aO ?aB ?aS ?aL ?_; (case aP => exact k39_mkM _ _ _ (⟨t120, t121, t122, t123, t124, t125⟩ : S39)); (case aB => exact (qS3 GE101 GE104 GE110 HB.out)); (case aF => exact (fun _ _ => trivial)); (case aO => exact (qR HO_12.out)); (case aS => exact (below_size (qS3 GE101 GE104 GE110 HB.out))); (case aL => have := LMc40.out; omega); intro v127 w124 ho hb hg hat; rw [← Ny126.out] at ho; replace HO_9 := Aside0.mk (Kd.R_over' (qR HO_9.out) (Kd.R_typed (qR HO_12.out)) (by decide) hg); replace BK101 := Aside0.mk (blk_grown (bq BK101.out) hg (Kd.R_ne HO_12.out BK101.out (by decide))); replace BK104 := Aside0.mk (blk_grown (bq BK104.out) hg (Kd.R_ne HO_12.out BK104.out (by decide))); replace BK110 := Aside0.mk (blk_grown (bq BK110.out) hg (Kd.R_ne HO_12.out BK110.out (by decide))); replace HB := Aside0.mk (hb); have HO128 := Aside0.mk (ho); clear HO_12; clear ho hb hg hat; obtain ⟨Ao125, co125, eo125⟩ := Kd.R_slice HO128.out; subst eo125) | ((with_reducible refine gate_dst (N := 81) rfl ?_); (try (refine gate_guard (by rfl) ?_; dsimp only)); refine Kd.N_lit (Kd.slice 39 k39) _ 33 ?hg (N' := 81) ?hd (xs := ([y126] : List (List (S39)))) (inner := [.slice Ao125 y126.length co125]) (ok := (fun k_ => some k_ ≠ (.slice Ao122 t105.length co122 : Value).ownBlock ∧ k_ ≠ gb101 ∧ k_ ≠ gb104 ∧ k_ ≠ gb110)) (okp := (fun k_ => some k_ ≠ (.slice Ao122 t105.length co122 : Value).ownBlock ∧ k_ ≠ gb101 ∧ k_ ≠ gb104 ∧ k_ ≠ gb110)) ?hr ?hp (fun _ hk => hk) ((show ∀ k_, w124.heap.size ≤ k_ → (fun k_ => some k_ ≠ (.slice Ao122 t105.length co122 : Value).ownBlock ∧ k_ ≠ gb101 ∧ k_ ≠ gb104 ∧ k_ ≠ gb110) k_ from fun k_ hk => ⟨Kd.fresh' (Kd.R_lt (qR HO_9.out)) k_ hk, Kd.freshB (bq BK101.out) k_ hk, Kd.freshB (bq BK104.out) k_ hk, Kd.freshB (bq BK110.out) k_ hk⟩) _ (Nat.le_refl _)) (Below.refl _ _) (Nat.le_refl _) (by simp) ?_; (case hd => rfl); (case hg => rfl); (case hr => exact qq8); (case hp => exact (Reps.one (show Kd.FK (Kd.slice 39 k39) _ _ y126 [.slice Ao125 y126.length co125] from (Kd.FK_slice_mk (Kd.R_reads' (Kd.R_mono (ok' := (fun k_ => some k_ ≠ (.slice Ao122 t105.length co122 : Value).ownBlock ∧ k_ ≠ gb101 ∧ k_ ≠ gb104 ∧ k_ ≠ gb110)) (Kd.R_types (Kd.R_types (Kd.R_types (Kd.R_apart' (HO128.out) (Kd.R_typed HO_9.out) (by decide)) BK101.out (by decide)) BK104.out (by decide)) BK110.out (by decide)) (fun k_ hk => ⟨hk.1.1.1.2, ⟨hk.1.1.2, ⟨hk.1.2, hk.2⟩⟩⟩))).2.1 (Kd.R_F (Kd.R_mono (ok' := (fun k_ => some k_ ≠ (.slice Ao122 t105.length co122 : Value).ownBlock ∧ k_ ≠ gb101 ∧ k_ ≠ gb104 ∧ k_ ≠ gb110)) (Kd.R_types (Kd.R_types (Kd.R_types (Kd.R_apart' (HO128.out) (Kd.R_typed HO_9.out) (by decide)) BK101.out (by decide)) BK104.out (by decide)) BK110.out (by decide)) (fun k_ hk => ⟨hk.1.1.1.2, ⟨hk.1.1.2, ⟨hk.1.2, hk.2⟩⟩⟩))))) (Reps.none _ _))); intro v130 w126 ho127 hb hg_ hnew_; clear hg_ hnew_; (first | rw [← Ny129.out] at ho127 | (simp only [Int.reduceToNat] at ho127; rw [← Ny129.out] at ho127)); replace HO_9 := Aside0.mk (Kd.R_below (qR HO_9.out) hb); have HO131 := Aside0.mk (Kd.N_lower ho127 (below_size (qS3 GE101 GE104 GE110 HB.out))); replace BK101 := Aside0.mk (blk_below (bq BK101.out) hb); replace BK104 := Aside0.mk (blk_below (bq BK104.out) hb); replace BK110 := Aside0.mk (blk_below (bq BK110.out) hb); replace HB := Aside0.mk (below_step (qS3 GE101 GE104 GE110 HB.out) hb); clear HO128; clear hb ho127; obtain ⟨Ao128, co128, eo128⟩ := Kd.N_slice HO131.out; subst eo128; have hnb129 := NB110_101.out; have hnc129 := NB101_110.out; have hnb130 := NB110_104.out; have hnc130 := NB104_110.out; obtain ⟨hcz131_0, hcz131_1, hcz131_2, hfz131_0, hfz131_1, hfz131_2⟩ := blk3 BK110.out) | ((with_reducible refine gate_callee (f := 9) rfl ?_); refine goesL_ (some 85) rfl rfl Tryd.func9 (by kernel_rfl) rfl #[.agg #[.int .i64 0, .int .i64 (wrap64 (1 + t109)), .slice Ao128 y129.length co128]] rfl qq0 ?_; (with_reducible refine (smf_Print.calls k1 0 (wrap64 (1 + t109)) _ _ y129 t132 t133 _ ?side1 ?side2 A41.out).mono ?_); (case side1 => refine (Kd.N_reads' (e := 33) (base := w.heap.size) (ok := fun k_ => (some k_ ≠ (.slice Ao122 t105.length co122 : Value).ownBlock ∧ (k_ ≠ gb101 ∧ (k_ ≠ gb104 ∧ k_ ≠ gb110)))) (n := y129.length) (c := co128) ?_).2.2; exact qqo); (case side2 => exact (Kd.N_reads' HO131.out).2.1); rintro e w132 ⟨rfl, hb⟩; refine ⟨_, rfl, ?_⟩; replace HO_9 := Aside0.mk (Kd.R_below (by (with_reducible repeat (first | apply Kd.R_alloc | apply Kd.R_drewN | apply Kd.R_drew)); exact (Kd.R_mono (Kd.R_far (p := ⟨gb110, 2, none⟩) (Kd.R_types HO_9.out BK110.out (by decide)) (fun _ hk => hk.2) (.slice Ao128 y129.length co128)) (fun _ h_ => h_.1))) hb); replace HO131 := Aside0.mk (Kd.N_below qqo hb); replace BK101 := Aside0.mk (blk_below (g := gb101) (o := .cells #[.int .i64 a0_0, .bool a0_1] 23 (0, 0)) (by refine bq ?_; refine blk_far ?_ NB101_110.out _; exact bq BK101.out) hb); replace BK104 := Aside0.mk (blk_below (g := gb104) (o := .cells #[.int .i64 (wrap64 (t103 - 7)), .bool a0_1] 23 (0, 0)) (by refine bq ?_; refine blk_far ?_ NB104_110.out _; exact bq BK104.out) hb); replace BK110 := Aside0.mk (blk_below (g := gb110) (o := .cells #[.int .i64 0, .int .i64 (wrap64 (1 + t109)), .slice Ao128 y129.length co128] 32 (0, 0)) (by refine bq ?_; refine blk_put (cs := #[.int .i64 0, .int .i64 (wrap64 (1 + t109)), .slice none 0 0]) ?_ 2 _ rfl; exact bq BK110.out) hb); replace HB := Aside0.mk (below_step (qS3 GE101 GE104 GE110 HB.out) hb); (try clear hb); (try clear hb2); (try clear hk); (try clear hi)) | ((with_reducible refine gate_callee (f := 10) rfl ?_); refine goesL_ (some 90) rfl rfl Tryd.func10 (by kernel_rfl) rfl #[.string t132] rfl qq0 ?_; (with_reducible refine (smf_Parse.calls k1 t132 t134 t135 t136 t139 t140 _ A42.out).mono ?_); rintro e w133 ⟨v137, rfl, ho0, hb⟩; refine ⟨_, rfl, ?_⟩; have HO138 := Aside0.mk (Kd.N_lower (Kd.N_mono (ok' := fun k_ => some k_ ≠ (.slice Ao122 t105.length co122 : Value).ownBlock ∧ some k_ ≠ (.slice Ao128 y129.length co128 : Value).ownBlock ∧ k_ ≠ gb101 ∧ k_ ≠ gb104 ∧ k_ ≠ gb110) (Kd.S_N (Kd.S_bound ho0)) (fun k_ hk_ => ⟨(Kd.fresh' (Kd.R_lt (qR HO_9.out)) k_ hk_.2.1), (Kd.fresh' (Kd.N_lt (qN HO131.out)) k_ hk_.2.1), (Kd.freshB (bq BK101.out) k_ hk_.2.1), (Kd.freshB (bq BK104.out) k_ hk_.2.1), (Kd.freshB (bq BK110.out) k_ hk_.2.1)⟩)) (below_size (qS3 GE101 GE104 GE110 HB.out))); replace HO_9 := Aside0.mk (Kd.R_below (qR HO_9.out) hb); replace HO131 := Aside0.mk (Kd.N_elder' (qN HO131.out) qqh hb); replace BK101 := Aside0.mk (blk_below (bq BK101.out) hb); replace BK104 := Aside0.mk (blk_below (bq BK104.out) hb); replace BK110 := Aside0.mk (blk_below (bq BK110.out) hb); replace HB := Aside0.mk (below_step (qS3 GE101 GE104 GE110 HB.out) hb); (try clear hb); (try clear hb2); (try clear hk); (try clear hi); (try clear ho0)) | ((with_reducible refine gate_dst (N := 18) rfl ?_); (try (refine gate_guard (by rfl) ?_; dsimp only)); refine box_event ?hg (N := 18) ?hd (cs := #[.int .i64 0, .int .i64 0, .slice none 0 0]) (t := 32) ?hr ?_; (case hd => rfl); (case hg => rfl); (case hr => exact qq8); intro gb141 hg w134 hbox hb; replace HO_9 := Aside0.mk (Kd.R_below (qR HO_9.out) hb); replace HO131 := Aside0.mk (Kd.N_below (Kd.N_elderB (qN HO131.out) gb141 (Nat.le_of_eq hg.symm)) hb); replace HO138 := Aside0.mk (Kd.N_below (Kd.N_elderB (qN HO138.out) gb141 (Nat.le_of_eq hg.symm)) hb); have BK141 := Aside0.mk (hbox); have GW141 := Aside0.mk ((qqC : w.heap.size ≤ gb141)); have GE141 := Aside0.mk ((qqC : w.heap.size ≤ gb141)); replace HB := Aside0.mk (below_step (qS3 GE101 GE104 GE110 HB.out) hb); have NB101_141 := Aside0.mk ((qqc : gb101 ≠ gb141)); have NB141_101 := Aside0.mk ((qqd : gb141 ≠ gb101)); replace BK101 := Aside0.mk (blk_below (bq BK101.out) hb); have NB104_141 := Aside0.mk ((by rw [hg]; exact Nat.ne_of_lt (blk_lt (bq BK104.out)) : gb104 ≠ gb141)); have NB141_104 := Aside0.mk ((by rw [hg]; exact Nat.ne_of_gt (blk_lt (bq BK104.out)) : gb141 ≠ gb104)); replace BK104 := Aside0.mk (blk_below (bq BK104.out) hb); have NB110_141 := Aside0.mk ((by rw [hg]; exact Nat.ne_of_lt (blk_lt (bq BK110.out)) : gb110 ≠ gb141)); have NB141_110 := Aside0.mk ((by rw [hg]; exact Nat.ne_of_gt (blk_lt (bq BK110.out)) : gb141 ≠ gb110)); replace BK110 := Aside0.mk (blk_below (bq BK110.out) hb); clear hb hbox hg; have hnb135 := NB141_101.out; have hnc135 := NB101_141.out; have hnb136 := NB141_104.out; have hnc136 := NB104_141.out; have hnb137 := NB141_110.out; have hnc137 := NB110_141.out; obtain ⟨hcz138_0, hcz138_1, hcz138_2, hfz138_0, hfz138_1, hfz138_2⟩ := blk3 BK141.out; obtain ⟨Ao139, co139, eo139⟩ := Kd.N_slice HO138.out; subst eo139) | ((with_reducible refine gate_store (t := 32) (p := 18) rfl ?_); refine store_event (t := 32) (p := 18) (v := ?vo_w140) (w1 := (((w134.setCell ⟨gb141, 0, none⟩ (.int .i64 t134)).setCell ⟨gb141, 1, none⟩ (.int .i64 t135)).setCell ⟨gb141, 2, none⟩ (.slice Ao139 t136.length co139))) ?hg ?ho ?hn ?hr ?_; (case ho => rfl); (case hg => rfl); (case hn => rfl); (case hr => exact qq8); intro w140 hw; have n0_ : Aside0 (Kd.R k37 37 w140 w.heap.size (fun _ => True) (.slice Ao122 t105.length co122) t105) := ⟨(by rw [hw]; exact (by (with_reducible repeat (first | apply Kd.R_alloc | apply Kd.R_drewN | apply Kd.R_drew)); exact Kd.R_mono (Kd.R_far (p := ⟨gb141, 2, none⟩) (Kd.R_far (p := ⟨gb141, 1, none⟩) (Kd.R_far (p := ⟨gb141, 0, none⟩) (Kd.R_types HO_9.out BK141.out (by decide)) (fun _ hk => hk.2) (.int .i64 t134)) (fun _ hk => hk.2) (.int .i64 t135)) (fun _ hk => hk.2) (.slice Ao139 t136.length co139)) (fun _ hk => trivial)))⟩; have n1_ : Aside0 (Kd.N (Kd.slice 39 k39) 33 w140 w.heap.size (fun k_ => some k_ ≠ (.slice Ao122 t105.length co122 : Value).ownBlock ∧ some k_ ≠ (.slice Ao139 t136.length co139 : Value).ownBlock ∧ k_ ≠ gb101 ∧ k_ ≠ gb104 ∧ k_ ≠ gb110 ∧ k_ ≠ gb141) (.slice Ao128 y129.length co128) y129) := ⟨(by rw [hw]; exact (by (with_reducible repeat (first | apply Kd.N_alloc | apply Kd.N_drewN | apply Kd.N_drew)); exact Kd.N_mono (Kd.N_far (p := ⟨gb141, 2, none⟩) (Kd.N_far (p := ⟨gb141, 1, none⟩) (Kd.N_far (p := ⟨gb141, 0, none⟩) (Kd.N_mono HO131.out (fun k_ hk => (⟨hk, hk.2⟩ : _ ∧ k_ ≠ gb141))) (fun _ hk => hk.2) (.int .i64 t134)) (fun _ hk => hk.2) (.int .i64 t135)) (fun _ hk => hk.2) (.slice Ao139 t136.length co139)) (fun _ hk => ⟨hk.1.1.1.1, ⟨hk.1.1.2, ⟨hk.1.1.1.2.1, ⟨hk.1.1.1.2.2.1, ⟨hk.1.1.1.2.2.2, hk.1.2⟩⟩⟩⟩⟩)))⟩; have n2_ : Aside0 (Kd.N (Kd.slice 39 k39) 33 w140 w.heap.size (fun k_ => some k_ ≠ (.slice Ao122 t105.length co122 : Value).ownBlock ∧ some k_ ≠ (.slice Ao128 y129.length co128 : Value).ownBlock ∧ k_ ≠ gb101 ∧ k_ ≠ gb104 ∧ k_ ≠ gb110 ∧ k_ ≠ gb141) (.slice Ao139 t136.length co139) t136) := ⟨(by rw [hw]; exact (by (with_reducible repeat (first | apply Kd.N_alloc | apply Kd.N_drewN | apply Kd.N_drew)); exact Kd.N_mono (Kd.N_far (p := ⟨gb141, 2, none⟩) (Kd.N_far (p := ⟨gb141, 1, none⟩) (Kd.N_far (p := ⟨gb141, 0, none⟩) (Kd.N_mono HO138.out (fun k_ hk => (⟨hk, hk.2⟩ : _ ∧ k_ ≠ gb141))) (fun _ hk => hk.2) (.int .i64 t134)) (fun _ hk => hk.2) (.int .i64 t135)) (fun _ hk => hk.2) (.slice Ao139 t136.length co139)) (fun _ hk => ⟨hk.1.1.1, ⟨hk.1.1.2.1, ⟨hk.1.1.2.2.1, ⟨hk.1.1.2.2.2.1, ⟨hk.1.1.2.2.2.2, hk.1.2⟩⟩⟩⟩⟩)))⟩; have n3_ : Aside0 (w140.heap[gb101]? = some (.cells #[.int .i64 a0_0, .bool a0_1] 23 (0, 0))) := ⟨(by rw [hw]; exact (by refine bq ?_; refine blk_far ?_ NB101_141.out _; refine bq ?_; refine blk_far ?_ NB101_141.out _; refine bq ?_; refine blk_far ?_ NB101_141.out _; exact bq BK101.out))⟩; have n4_ : Aside0 (w140.heap[gb104]? = some (.cells #[.int .i64 (wrap64 (t103 - 7)), .bool a0_1] 23 (0, 0))) := ⟨(by rw [hw]; exact (by refine bq ?_; refine blk_far ?_ NB104_141.out _; refine bq ?_; refine blk_far ?_ NB104_141.out _; refine bq ?_; refine blk_far ?_ NB104_141.out _; exact bq BK104.out))⟩; have n5_ : Aside0 (w140.heap[gb110]? = some (.cells #[.int .i64 0, .int .i64 (wrap64 (1 + t109)), .slice Ao128 y129.length co128] 32 (0, 0))) := ⟨(by rw [hw]; exact (by refine bq ?_; refine blk_far ?_ NB110_141.out _; refine bq ?_; refine blk_far ?_ NB110_141.out _; refine bq ?_; refine blk_far ?_ NB110_141.out _; exact bq BK110.out))⟩; have n6_ : Aside0 (w140.heap[gb141]? = some (.cells #[.int .i64 t134, .int .i64 t135, .slice Ao139 t136.length co139] 32 (0, 0))) := ⟨(by rw [hw]; exact (by refine bq ?_; refine blk_put (cs := #[.int .i64 t134, .int .i64 t135, .slice none 0 0]) ?_ 2 _ rfl; refine bq ?_; refine blk_put (cs := #[.int .i64 t134, .int .i64 0, .slice none 0 0]) ?_ 1 _ rfl; refine bq ?_; refine blk_put (cs := #[.int .i64 0, .int .i64 0, .slice none 0 0]) ?_ 0 _ rfl; exact bq BK141.out))⟩; have n7_ : Aside0 (Below w.heap.size w w140) := ⟨(by rw [hw]; exact (qS4 GE101 GE104 GE110 GE141 HB.out))⟩; clear hw; clear HO_9; clear HO131; clear HO138; clear BK101; clear BK104; clear BK110; clear BK141; clear HB; have HO_9 := n0_; have HO131 := n1_; have HO138 := n2_; have BK101 := n3_; have BK104 := n4_; have BK110 := n5_; have BK141 := n6_; have HB := n7_; clear n0_ n1_ n2_ n3_ n4_ n5_ n6_ n7_; obtain ⟨hcz141_0, hcz141_1, hcz141_2, hfz141_0, hfz141_1, hfz141_2⟩ := blk3 BK110.out; have p142 : 0 ≤ (0 : Int) := (by omega); have q142 : 0 < (y129.length : Int) := of_decide_eq_true qq3; obtain ⟨ad142, A142_0, c142_0, e142, hx142_0, hl142_0, hi142_0⟩ := at_L4 (Kd.N_reads' HO131.out).2.2 0 p142 q142; cases e142; obtain ⟨ce142, hce142, hMe142, hcc142⟩ := Kd.N_get HO131.out [] 0 p142 (by first | exact q142 | exact of_decide_eq_true qq3 | (have e_ := (Kd.N_reads' HO131.out).1; omega)); obtain ⟨ua142_0, uc142_0, rfl, ul142_0, ge142_0⟩ := Kd.FK_slice_open hMe142; have hv142_0 := hcc142 0 _ rfl; rw [Nat.add_zero, show ((Kd.slice 39 k39)).sz = 1 from rfl, Nat.mul_one] at hv142_0; replace hv142_0 := Option.some.inj (hv142_0.symm.trans hx142_0); injection hv142_0 with hva_ hvn_ hvc_; rw [hva_] at ge142_0; rw [hvc_] at ul142_0; have HL142_0 := Aside0.mk (show Kd.V k39 39 _ w.heap.size _ _ (rd_L4 y129 0) from Kd.V_mk ul142_0 ge142_0); clear hva_ hvn_ hvc_ ge142_0 ul142_0; clear hcc142 hce142; have qi142 : (0 < y129.length) = True := eq_true (by omega); (try rw [show ((0 : Int)).toNat = 0 from rfl] at hx142_0); (try rw [Addr.add_zero'] at hx142_0); have HR142_0 := Aside0.mk hi142_0; have HC142_0 := Aside0.mk hl142_0; clear hi142_0 hl142_0; replace p142 := eq_true p142; replace q142 := eq_true q142) | ((with_reducible refine gate_callee (f := 11) rfl ?_); refine goesL_ (some 99) rfl rfl Tryd.func11 (by kernel_rfl) rfl #[.slice A142_0 (rd_L4 y129 0).length c142_0] rfl qq0 ?_; (with_reducible refine (wire_Encode.calls k1 _ _ (rd_L4 y129 0) t143 t144 _ ?side1 ?side2 A44.out).mono ?_); (case side1 => repeat (first | exact (by repeat (first | (with_reducible exact HR142_0.out) | (with_reducible refine Kd.C_alloc ?_ _) | (with_reducible refine Kd.C_drewN ?_ _) | (with_reducible refine Kd.C_drew ?_) | exact HR142_0.out)) | (with_reducible refine Kd.C_alloc ?_ _) | (with_reducible refine Kd.C_drewN ?_ _) | (with_reducible refine Kd.C_drew ?_))); (case side2 => exact HC142_0.out); rintro e w142 ⟨rfl, hb⟩; refine ⟨_, rfl, ?_⟩; replace HO_9 := Aside0.mk (Kd.R_below (qR HO_9.out) hb); replace HO131 := Aside0.mk (Kd.N_below (qN HO131.out) hb); replace HO138 := Aside0.mk (Kd.N_below (qN HO138.out) hb); replace HL142_0 := Aside0.mk (Kd.V_below (qV HL142_0.out) hb); replace BK101 := Aside0.mk (blk_below (bq BK101.out) hb); replace BK104 := Aside0.mk (blk_below (bq BK104.out) hb); replace BK110 := Aside0.mk (blk_below (bq BK110.out) hb); replace BK141 := Aside0.mk (blk_below (bq BK141.out) hb); replace HR142_0 := Aside0.mk (Kd.C_below (by repeat (first | (with_reducible exact HR142_0.out) | (with_reducible refine Kd.C_alloc ?_ _) | (with_reducible refine Kd.C_drewN ?_ _) | (with_reducible refine Kd.C_drew ?_) | exact HR142_0.out)) hb); replace HB := Aside0.mk (below_step (qS4 GE101 GE104 GE110 GE141 HB.out) hb); (try clear hb); (try clear hb2); (try clear hk); (try clear hi); obtain ⟨hcz143_0, hcz143_1, hcz143_2, hfz143_0, hfz143_1, hfz143_2⟩ := blk3 BK141.out; have p145 : 0 ≤ (0 : Int) := (by omega); have q145 : 0 < (t136.length : Int) := of_decide_eq_true qq3; obtain ⟨ad145, A145_0, c145_0, e145, hx145_0, hl145_0, hi145_0⟩ := at_L4 (Kd.N_reads' HO138.out).2.2 0 p145 q145; cases e145; obtain ⟨ce145, hce145, hMe145, hcc145⟩ := Kd.N_get HO138.out [] 0 p145 (by first | exact q145 | exact of_decide_eq_true qq3 | (have e_ := (Kd.N_reads' HO138.out).1; omega)); obtain ⟨ua145_0, uc145_0, rfl, ul145_0, ge145_0⟩ := Kd.FK_slice_open hMe145; have hv145_0 := hcc145 0 _ rfl; rw [Nat.add_zero, show ((Kd.slice 39 k39)).sz = 1 from rfl, Nat.mul_one] at hv145_0; replace hv145_0 := Option.some.inj (hv145_0.symm.trans hx145_0); injection hv145_0 with hva_ hvn_ hvc_; rw [hva_] at ge145_0; rw [hvc_] at ul145_0; have HL145_0 := Aside0.mk (show Kd.V k39 39 _ w.heap.size _ _ (rd_L4 t136 0) from Kd.V_mk ul145_0 ge145_0); clear hva_ hvn_ hvc_ ge145_0 ul145_0; clear hcc145 hce145; have qi145 : (0 < t136.length) = True := eq_true (by omega); (try rw [show ((0 : Int)).toNat = 0 from rfl] at hx145_0); (try rw [Addr.add_zero'] at hx145_0); have HR145_0 := Aside0.mk hi145_0; have HC145_0 := Aside0.mk hl145_0; clear hi145_0 hl145_0; replace p145 := eq_true p145; replace q145 := eq_true q145))
        go_ret
        exact ⟨qq4, qS4 GE101 GE104 GE110 GE141 HB.out⟩
      rw [if_pos c54] at H
      have c54b0 : ((t132.size : Int) == (wrap64 (22 + (t143.size : Int)))) = true := beq_iff_eq.mpr c54
      have c54b1 : ((t132.size : Int) != (wrap64 (22 + (t143.size : Int)))) = false := bne_eq_false_iff_eq.mpr c54
      clear c54
      have H' := Aside0.mk H
      clear H
      obtain ⟨Ao55, co55, eo55⟩ := Kd.R_slice HO_9.out
      subst eo55
      go_wp2_with (first | ((with_reducible refine gate_callee (f := 8) rfl ?_); refine goesL_ (some 78) rfl rfl Tryd.func8 (by kernel_rfl) rfl #[.int .i64 0] rfl qq0 ?_; (with_reducible refine (partitalaw16_End.calls 0 t120 t121 t122 t123 t124 t125 _ A39.out).mono ?_); rintro e w56 ⟨rfl, hb⟩; refine ⟨_, rfl, ?_⟩; replace HO_9 := Aside0.mk (Kd.R_below (qR HO_9.out) hb); replace HO_12 := Aside0.mk (Kd.R_below (qR HO_12.out) hb); replace BK101 := Aside0.mk (blk_below (bq BK101.out) hb); replace BK104 := Aside0.mk (blk_below (bq BK104.out) hb); replace BK110 := Aside0.mk (blk_below (bq BK110.out) hb); replace HB := Aside0.mk (below_step (qS3 GE101 GE104 GE110 HB.out) hb); (try clear hb); (try clear hb2); (try clear hk); (try clear hi)) | ((with_reducible refine gate_builtin (b := .append) (xs := #[.tmp 77, .tmp 79]) rfl ?_); (try (refine gate_guard (by rfl) ?_; dsimp only)); at_builtin; refine Kd.R_append k39 (w0 := w) w.heap.size rfl (.tmp 77) (.tmp 79) 33 39 (.agg #[(.int .i64 0), (.int .i64 0), (.int .i64 0), (.int .i64 0), (.int .i64 0), (.string ⟨#[]⟩)]) 56 rfl Tryd.underlying33 info39 rfl (by decide) (by omega) u12 x12_1 (⟨t120, t121, t122, t123, t124, t125⟩ : S39) [.int .i64 t120, .int .i64 t121, .int .i64 t122, .int .i64 t123, .int .i64 t124, .string t125] (fun _ => True) (fun _ => False) rfl rfl ?aP (fun _ hk => hk.elim) ?aF ?aO ?aB ?aS ?aL ?_; (case aP => exact k39_mkM _ _ _ (⟨t120, t121, t122, t123, t124, t125⟩ : S39)); (case aB => exact (qS3 GE101 GE104 GE110 HB.out)); (case aF => exact (fun _ _ => trivial)); (case aO => exact (qR HO_12.out)); (case aS => exact (below_size (qS3 GE101 GE104 GE110 HB.out))); (case aL => have := LMc40.out; omega); intro v127 w57 ho hb hg hat; rw [← Ny126.out] at ho; replace HO_9 := Aside0.mk (Kd.R_over' (qR HO_9.out) (Kd.R_typed (qR HO_12.out)) (by decide) hg); replace BK101 := Aside0.mk (blk_grown (bq BK101.out) hg (Kd.R_ne HO_12.out BK101.out (by decide))); replace BK104 := Aside0.mk (blk_grown (bq BK104.out) hg (Kd.R_ne HO_12.out BK104.out (by decide))); replace BK110 := Aside0.mk (blk_grown (bq BK110.out) hg (Kd.R_ne HO_12.out BK110.out (by decide))); replace HB := Aside0.mk (hb); have HO128 := Aside0.mk (ho); clear HO_12; clear ho hb hg hat; obtain ⟨Ao58, co58, eo58⟩ := Kd.R_slice HO128.out; subst eo58) | ((with_reducible refine gate_dst (N := 81) rfl ?_); (try (refine gate_guard (by rfl) ?_; dsimp only)); refine Kd.N_lit (Kd.slice 39 k39) _ 33 ?hg (N' := 81) ?hd (xs := ([y126] : List (List (S39)))) (inner := [.slice Ao58 y126.length co58]) (ok := (fun k_ => some k_ ≠ (.slice Ao55 t105.length co55 : Value).ownBlock ∧ k_ ≠ gb101 ∧ k_ ≠ gb104 ∧ k_ ≠ gb110)) (okp := (fun k_ => some k_ ≠ (.slice Ao55 t105.length co55 : Value).ownBlock ∧ k_ ≠ gb101 ∧ k_ ≠ gb104 ∧ k_ ≠ gb110)) ?hr ?hp (fun _ hk => hk) ((show ∀ k_, w57.heap.size ≤ k_ → (fun k_ => some k_ ≠ (.slice Ao55 t105.length co55 : Value).ownBlock ∧ k_ ≠ gb101 ∧ k_ ≠ gb104 ∧ k_ ≠ gb110) k_ from fun k_ hk => ⟨Kd.fresh' (Kd.R_lt (qR HO_9.out)) k_ hk, Kd.freshB (bq BK101.out) k_ hk, Kd.freshB (bq BK104.out) k_ hk, Kd.freshB (bq BK110.out) k_ hk⟩) _ (Nat.le_refl _)) (Below.refl _ _) (Nat.le_refl _) (by simp) ?_; (case hd => rfl); (case hg => rfl); (case hr => exact qq8); (case hp => exact (Reps.one (show Kd.FK (Kd.slice 39 k39) _ _ y126 [.slice Ao58 y126.length co58] from (Kd.FK_slice_mk (Kd.R_reads' (Kd.R_mono (ok' := (fun k_ => some k_ ≠ (.slice Ao55 t105.length co55 : Value).ownBlock ∧ k_ ≠ gb101 ∧ k_ ≠ gb104 ∧ k_ ≠ gb110)) (Kd.R_types (Kd.R_types (Kd.R_types (Kd.R_apart' (HO128.out) (Kd.R_typed HO_9.out) (by decide)) BK101.out (by decide)) BK104.out (by decide)) BK110.out (by decide)) (fun k_ hk => ⟨hk.1.1.1.2, ⟨hk.1.1.2, ⟨hk.1.2, hk.2⟩⟩⟩))).2.1 (Kd.R_F (Kd.R_mono (ok' := (fun k_ => some k_ ≠ (.slice Ao55 t105.length co55 : Value).ownBlock ∧ k_ ≠ gb101 ∧ k_ ≠ gb104 ∧ k_ ≠ gb110)) (Kd.R_types (Kd.R_types (Kd.R_types (Kd.R_apart' (HO128.out) (Kd.R_typed HO_9.out) (by decide)) BK101.out (by decide)) BK104.out (by decide)) BK110.out (by decide)) (fun k_ hk => ⟨hk.1.1.1.2, ⟨hk.1.1.2, ⟨hk.1.2, hk.2⟩⟩⟩))))) (Reps.none _ _))); intro v130 w59 ho60 hb hg_ hnew_; clear hg_ hnew_; (first | rw [← Ny129.out] at ho60 | (simp only [Int.reduceToNat] at ho60; rw [← Ny129.out] at ho60)); replace HO_9 := Aside0.mk (Kd.R_below (qR HO_9.out) hb); have HO131 := Aside0.mk (Kd.N_lower ho60 (below_size (qS3 GE101 GE104 GE110 HB.out))); replace BK101 := Aside0.mk (blk_below (bq BK101.out) hb); replace BK104 := Aside0.mk (blk_below (bq BK104.out) hb); replace BK110 := Aside0.mk (blk_below (bq BK110.out) hb); replace HB := Aside0.mk (below_step (qS3 GE101 GE104 GE110 HB.out) hb); clear HO128; clear hb ho60; obtain ⟨Ao61, co61, eo61⟩ := Kd.N_slice HO131.out; subst eo61; have hnb62 := NB110_101.out; have hnc62 := NB101_110.out; have hnb63 := NB110_104.out; have hnc63 := NB104_110.out; obtain ⟨hcz64_0, hcz64_1, hcz64_2, hfz64_0, hfz64_1, hfz64_2⟩ := blk3 BK110.out) | ((with_reducible refine gate_callee (f := 9) rfl ?_); refine goesL_ (some 85) rfl rfl Tryd.func9 (by kernel_rfl) rfl #[.agg #[.int .i64 0, .int .i64 (wrap64 (1 + t109)), .slice Ao61 y129.length co61]] rfl qq0 ?_; (with_reducible refine (smf_Print.calls k1 0 (wrap64 (1 + t109)) _ _ y129 t132 t133 _ ?side1 ?side2 A41.out).mono ?_); (case side1 => refine (Kd.N_reads' (e := 33) (base := w.heap.size) (ok := fun k_ => (some k_ ≠ (.slice Ao55 t105.length co55 : Value).ownBlock ∧ (k_ ≠ gb101 ∧ (k_ ≠ gb104 ∧ k_ ≠ gb110)))) (n := y129.length) (c := co61) ?_).2.2; exact qqx); (case side2 => exact (Kd.N_reads' HO131.out).2.1); rintro e w65 ⟨rfl, hb⟩; refine ⟨_, rfl, ?_⟩; replace HO_9 := Aside0.mk (Kd.R_below (by (with_reducible repeat (first | apply Kd.R_alloc | apply Kd.R_drewN | apply Kd.R_drew)); exact (Kd.R_mono (Kd.R_far (p := ⟨gb110, 2, none⟩) (Kd.R_types HO_9.out BK110.out (by decide)) (fun _ hk => hk.2) (.slice Ao61 y129.length co61)) (fun _ h_ => h_.1))) hb); replace HO131 := Aside0.mk (Kd.N_below qqx hb); replace BK101 := Aside0.mk (blk_below (g := gb101) (o := .cells #[.int .i64 a0_0, .bool a0_1] 23 (0, 0)) (by refine bq ?_; refine blk_far ?_ NB101_110.out _; exact bq BK101.out) hb); replace BK104 := Aside0.mk (blk_below (g := gb104) (o := .cells #[.int .i64 (wrap64 (t103 - 7)), .bool a0_1] 23 (0, 0)) (by refine bq ?_; refine blk_far ?_ NB104_110.out _; exact bq BK104.out) hb); replace BK110 := Aside0.mk (blk_below (g := gb110) (o := .cells #[.int .i64 0, .int .i64 (wrap64 (1 + t109)), .slice Ao61 y129.length co61] 32 (0, 0)) (by refine bq ?_; refine blk_put (cs := #[.int .i64 0, .int .i64 (wrap64 (1 + t109)), .slice none 0 0]) ?_ 2 _ rfl; exact bq BK110.out) hb); replace HB := Aside0.mk (below_step (qS3 GE101 GE104 GE110 HB.out) hb); (try clear hb); (try clear hb2); (try clear hk); (try clear hi)) | ((with_reducible refine gate_callee (f := 10) rfl ?_); refine goesL_ (some 90) rfl rfl Tryd.func10 (by kernel_rfl) rfl #[.string t132] rfl qq0 ?_; (with_reducible refine (smf_Parse.calls k1 t132 t134 t135 t136 t139 t140 _ A42.out).mono ?_); rintro e w66 ⟨v137, rfl, ho0, hb⟩; refine ⟨_, rfl, ?_⟩; have HO138 := Aside0.mk (Kd.N_lower (Kd.N_mono (ok' := fun k_ => some k_ ≠ (.slice Ao55 t105.length co55 : Value).ownBlock ∧ some k_ ≠ (.slice Ao61 y129.length co61 : Value).ownBlock ∧ k_ ≠ gb101 ∧ k_ ≠ gb104 ∧ k_ ≠ gb110) (Kd.S_N (Kd.S_bound ho0)) (fun k_ hk_ => ⟨(Kd.fresh' (Kd.R_lt (qR HO_9.out)) k_ hk_.2.1), (Kd.fresh' (Kd.N_lt (qN HO131.out)) k_ hk_.2.1), (Kd.freshB (bq BK101.out) k_ hk_.2.1), (Kd.freshB (bq BK104.out) k_ hk_.2.1), (Kd.freshB (bq BK110.out) k_ hk_.2.1)⟩)) (below_size (qS3 GE101 GE104 GE110 HB.out))); replace HO_9 := Aside0.mk (Kd.R_below (qR HO_9.out) hb); replace HO131 := Aside0.mk (Kd.N_elder' (qN HO131.out) qqh hb); replace BK101 := Aside0.mk (blk_below (bq BK101.out) hb); replace BK104 := Aside0.mk (blk_below (bq BK104.out) hb); replace BK110 := Aside0.mk (blk_below (bq BK110.out) hb); replace HB := Aside0.mk (below_step (qS3 GE101 GE104 GE110 HB.out) hb); (try clear hb); (try clear hb2); (try clear hk); (try clear hi); (try clear ho0)) | ((with_reducible refine gate_dst (N := 18) rfl ?_); (try (refine gate_guard (by rfl) ?_; dsimp only)); refine box_event ?hg (N := 18) ?hd (cs := #[.int .i64 0, .int .i64 0, .slice none 0 0]) (t := 32) ?hr ?_; (case hd => rfl); (case hg => rfl); (case hr => exact qq8); intro gb141 hg w67 hbox hb; replace HO_9 := Aside0.mk (Kd.R_below (qR HO_9.out) hb); replace HO131 := Aside0.mk (Kd.N_below (Kd.N_elderB (qN HO131.out) gb141 (Nat.le_of_eq hg.symm)) hb); replace HO138 := Aside0.mk (Kd.N_below (Kd.N_elderB (qN HO138.out) gb141 (Nat.le_of_eq hg.symm)) hb); have BK141 := Aside0.mk (hbox); have GW141 := Aside0.mk ((qqC : w.heap.size ≤ gb141)); have GE141 := Aside0.mk ((qqC : w.heap.size ≤ gb141)); replace HB := Aside0.mk (below_step (qS3 GE101 GE104 GE110 HB.out) hb); have NB101_141 := Aside0.mk ((qqc : gb101 ≠ gb141)); have NB141_101 := Aside0.mk ((qqd : gb141 ≠ gb101)); replace BK101 := Aside0.mk (blk_below (bq BK101.out) hb); have NB104_141 := Aside0.mk ((by rw [hg]; exact Nat.ne_of_lt (blk_lt (bq BK104.out)) : gb104 ≠ gb141)); have NB141_104 := Aside0.mk ((by rw [hg]; exact Nat.ne_of_gt (blk_lt (bq BK104.out)) : gb141 ≠ gb104)); replace BK104 := Aside0.mk (blk_below (bq BK104.out) hb); have NB110_141 := Aside0.mk ((by rw [hg]; exact Nat.ne_of_lt (blk_lt (bq BK110.out)) : gb110 ≠ gb141)); have NB141_110 := Aside0.mk ((by rw [hg]; exact Nat.ne_of_gt (blk_lt (bq BK110.out)) : gb141 ≠ gb110)); replace BK110 := Aside0.mk (blk_below (bq BK110.out) hb); clear hb hbox hg; have hnb68 := NB141_101.out; have hnc68 := NB101_141.out; have hnb69 := NB141_104.out; have hnc69 := NB104_141.out; have hnb70 := NB141_110.out; have hnc70 := NB110_141.out; obtain ⟨hcz71_0, hcz71_1, hcz71_2, hfz71_0, hfz71_1, hfz71_2⟩ := blk3 BK141.out; obtain ⟨Ao72, co72, eo72⟩ := Kd.N_slice HO138.out; subst eo72) | ((with_reducible refine gate_store (t := 32) (p := 18) rfl ?_); refine store_event (t := 32) (p := 18) (v := ?vo_w73) (w1 := (((w67.setCell ⟨gb141, 0, none⟩ (.int .i64 t134)).setCell ⟨gb141, 1, none⟩ (.int .i64 t135)).setCell ⟨gb141, 2, none⟩ (.slice Ao72 t136.length co72))) ?hg ?ho ?hn ?hr ?_; (case ho => rfl); (case hg => rfl); (case hn => rfl); (case hr => exact qq8); intro w73 hw; have n0_ : Aside0 (Kd.R k37 37 w73 w.heap.size (fun _ => True) (.slice Ao55 t105.length co55) t105) := ⟨(by rw [hw]; exact (by (with_reducible repeat (first | apply Kd.R_alloc | apply Kd.R_drewN | apply Kd.R_drew)); exact Kd.R_mono (Kd.R_far (p := ⟨gb141, 2, none⟩) (Kd.R_far (p := ⟨gb141, 1, none⟩) (Kd.R_far (p := ⟨gb141, 0, none⟩) (Kd.R_types HO_9.out BK141.out (by decide)) (fun _ hk => hk.2) (.int .i64 t134)) (fun _ hk => hk.2) (.int .i64 t135)) (fun _ hk => hk.2) (.slice Ao72 t136.length co72)) (fun _ hk => trivial)))⟩; have n1_ : Aside0 (Kd.N (Kd.slice 39 k39) 33 w73 w.heap.size (fun k_ => some k_ ≠ (.slice Ao55 t105.length co55 : Value).ownBlock ∧ some k_ ≠ (.slice Ao72 t136.length co72 : Value).ownBlock ∧ k_ ≠ gb101 ∧ k_ ≠ gb104 ∧ k_ ≠ gb110 ∧ k_ ≠ gb141) (.slice Ao61 y129.length co61) y129) := ⟨(by rw [hw]; exact (by (with_reducible repeat (first | apply Kd.N_alloc | apply Kd.N_drewN | apply Kd.N_drew)); exact Kd.N_mono (Kd.N_far (p := ⟨gb141, 2, none⟩) (Kd.N_far (p := ⟨gb141, 1, none⟩) (Kd.N_far (p := ⟨gb141, 0, none⟩) (Kd.N_mono HO131.out (fun k_ hk => (⟨hk, hk.2⟩ : _ ∧ k_ ≠ gb141))) (fun _ hk => hk.2) (.int .i64 t134)) (fun _ hk => hk.2) (.int .i64 t135)) (fun _ hk => hk.2) (.slice Ao72 t136.length co72)) (fun _ hk => ⟨hk.1.1.1.1, ⟨hk.1.1.2, ⟨hk.1.1.1.2.1, ⟨hk.1.1.1.2.2.1, ⟨hk.1.1.1.2.2.2, hk.1.2⟩⟩⟩⟩⟩)))⟩; have n2_ : Aside0 (Kd.N (Kd.slice 39 k39) 33 w73 w.heap.size (fun k_ => some k_ ≠ (.slice Ao55 t105.length co55 : Value).ownBlock ∧ some k_ ≠ (.slice Ao61 y129.length co61 : Value).ownBlock ∧ k_ ≠ gb101 ∧ k_ ≠ gb104 ∧ k_ ≠ gb110 ∧ k_ ≠ gb141) (.slice Ao72 t136.length co72) t136) := ⟨(by rw [hw]; exact (by (with_reducible repeat (first | apply Kd.N_alloc | apply Kd.N_drewN | apply Kd.N_drew)); exact Kd.N_mono (Kd.N_far (p := ⟨gb141, 2, none⟩) (Kd.N_far (p := ⟨gb141, 1, none⟩) (Kd.N_far (p := ⟨gb141, 0, none⟩) (Kd.N_mono HO138.out (fun k_ hk => (⟨hk, hk.2⟩ : _ ∧ k_ ≠ gb141))) (fun _ hk => hk.2) (.int .i64 t134)) (fun _ hk => hk.2) (.int .i64 t135)) (fun _ hk => hk.2) (.slice Ao72 t136.length co72)) (fun _ hk => ⟨hk.1.1.1, ⟨hk.1.1.2.1, ⟨hk.1.1.2.2.1, ⟨hk.1.1.2.2.2.1, ⟨hk.1.1.2.2.2.2, hk.1.2⟩⟩⟩⟩⟩)))⟩; have n3_ : Aside0 (w73.heap[gb101]? = some (.cells #[.int .i64 a0_0, .bool a0_1] 23 (0, 0))) := ⟨(by rw [hw]; exact (by refine bq ?_; refine blk_far ?_ NB101_141.out _; refine bq ?_; refine blk_far ?_ NB101_141.out _; refine bq ?_; refine blk_far ?_ NB101_141.out _; exact bq BK101.out))⟩; have n4_ : Aside0 (w73.heap[gb104]? = some (.cells #[.int .i64 (wrap64 (t103 - 7)), .bool a0_1] 23 (0, 0))) := ⟨(by rw [hw]; exact (by refine bq ?_; refine blk_far ?_ NB104_141.out _; refine bq ?_; refine blk_far ?_ NB104_141.out _; refine bq ?_; refine blk_far ?_ NB104_141.out _; exact bq BK104.out))⟩; have n5_ : Aside0 (w73.heap[gb110]? = some (.cells #[.int .i64 0, .int .i64 (wrap64 (1 + t109)), .slice Ao61 y129.length co61] 32 (0, 0))) := ⟨(by rw [hw]; exact (by refine bq ?_; refine blk_far ?_ NB110_141.out _; refine bq ?_; refine blk_far ?_ NB110_141.out _; refine bq ?_; refine blk_far ?_ NB110_141.out _; exact bq BK110.out))⟩; have n6_ : Aside0 (w73.heap[gb141]? = some (.cells #[.int .i64 t134, .int .i64 t135, .slice Ao72 t136.length co72] 32 (0, 0))) := ⟨(by rw [hw]; exact (by refine bq ?_; refine blk_put (cs := #[.int .i64 t134, .int .i64 t135, .slice none 0 0]) ?_ 2 _ rfl; refine bq ?_; refine blk_put (cs := #[.int .i64 t134, .int .i64 0, .slice none 0 0]) ?_ 1 _ rfl; refine bq ?_; refine blk_put (cs := #[.int .i64 0, .int .i64 0, .slice none 0 0]) ?_ 0 _ rfl; exact bq BK141.out))⟩; have n7_ : Aside0 (Below w.heap.size w w73) := ⟨(by rw [hw]; exact (qS4 GE101 GE104 GE110 GE141 HB.out))⟩; clear hw; clear HO_9; clear HO131; clear HO138; clear BK101; clear BK104; clear BK110; clear BK141; clear HB; have HO_9 := n0_; have HO131 := n1_; have HO138 := n2_; have BK101 := n3_; have BK104 := n4_; have BK110 := n5_; have BK141 := n6_; have HB := n7_; clear n0_ n1_ n2_ n3_ n4_ n5_ n6_ n7_; obtain ⟨hcz74_0, hcz74_1, hcz74_2, hfz74_0, hfz74_1, hfz74_2⟩ := blk3 BK110.out; have p142 : 0 ≤ (0 : Int) := (by omega); have q142 : 0 < (y129.length : Int) := of_decide_eq_true qq3; obtain ⟨ad142, A142_0, c142_0, e142, hx142_0, hl142_0, hi142_0⟩ := at_L4 (Kd.N_reads' HO131.out).2.2 0 p142 q142; cases e142; obtain ⟨ce142, hce142, hMe142, hcc142⟩ := Kd.N_get HO131.out [] 0 p142 (by first | exact q142 | exact of_decide_eq_true qq3 | (have e_ := (Kd.N_reads' HO131.out).1; omega)); obtain ⟨ua142_0, uc142_0, rfl, ul142_0, ge142_0⟩ := Kd.FK_slice_open hMe142; have hv142_0 := hcc142 0 _ rfl; rw [Nat.add_zero, show ((Kd.slice 39 k39)).sz = 1 from rfl, Nat.mul_one] at hv142_0; replace hv142_0 := Option.some.inj (hv142_0.symm.trans hx142_0); injection hv142_0 with hva_ hvn_ hvc_; rw [hva_] at ge142_0; rw [hvc_] at ul142_0; have HL142_0 := Aside0.mk (show Kd.V k39 39 _ w.heap.size _ _ (rd_L4 y129 0) from Kd.V_mk ul142_0 ge142_0); clear hva_ hvn_ hvc_ ge142_0 ul142_0; clear hcc142 hce142; have qi142 : (0 < y129.length) = True := eq_true (by omega); (try rw [show ((0 : Int)).toNat = 0 from rfl] at hx142_0); (try rw [Addr.add_zero'] at hx142_0); have HR142_0 := Aside0.mk hi142_0; have HC142_0 := Aside0.mk hl142_0; clear hi142_0 hl142_0; replace p142 := eq_true p142; replace q142 := eq_true q142) | ((with_reducible refine gate_callee (f := 11) rfl ?_); refine goesL_ (some 99) rfl rfl Tryd.func11 (by kernel_rfl) rfl #[.slice A142_0 (rd_L4 y129 0).length c142_0] rfl qq0 ?_; (with_reducible refine (wire_Encode.calls k1 _ _ (rd_L4 y129 0) t143 t144 _ ?side1 ?side2 A44.out).mono ?_); (case side1 => repeat (first | exact (by repeat (first | (with_reducible exact HR142_0.out) | (with_reducible refine Kd.C_alloc ?_ _) | (with_reducible refine Kd.C_drewN ?_ _) | (with_reducible refine Kd.C_drew ?_) | exact HR142_0.out)) | (with_reducible refine Kd.C_alloc ?_ _) | (with_reducible refine Kd.C_drewN ?_ _) | (with_reducible refine Kd.C_drew ?_))); (case side2 => exact HC142_0.out); rintro e w75 ⟨rfl, hb⟩; refine ⟨_, rfl, ?_⟩; replace HO_9 := Aside0.mk (Kd.R_below (qR HO_9.out) hb); replace HO131 := Aside0.mk (Kd.N_below (qN HO131.out) hb); replace HO138 := Aside0.mk (Kd.N_below (qN HO138.out) hb); replace HL142_0 := Aside0.mk (Kd.V_below (qV HL142_0.out) hb); replace BK101 := Aside0.mk (blk_below (bq BK101.out) hb); replace BK104 := Aside0.mk (blk_below (bq BK104.out) hb); replace BK110 := Aside0.mk (blk_below (bq BK110.out) hb); replace BK141 := Aside0.mk (blk_below (bq BK141.out) hb); replace HR142_0 := Aside0.mk (Kd.C_below (by repeat (first | (with_reducible exact HR142_0.out) | (with_reducible refine Kd.C_alloc ?_ _) | (with_reducible refine Kd.C_drewN ?_ _) | (with_reducible refine Kd.C_drew ?_) | exact HR142_0.out)) hb); replace HB := Aside0.mk (below_step (qS4 GE101 GE104 GE110 GE141 HB.out) hb); (try clear hb); (try clear hb2); (try clear hk); (try clear hi); obtain ⟨hcz76_0, hcz76_1, hcz76_2, hfz76_0, hfz76_1, hfz76_2⟩ := blk3 BK141.out; have p145 : 0 ≤ (0 : Int) := (by omega); have q145 : 0 < (t136.length : Int) := of_decide_eq_true qq3; obtain ⟨ad145, A145_0, c145_0, e145, hx145_0, hl145_0, hi145_0⟩ := at_L4 (Kd.N_reads' HO138.out).2.2 0 p145 q145; cases e145; obtain ⟨ce145, hce145, hMe145, hcc145⟩ := Kd.N_get HO138.out [] 0 p145 (by first | exact q145 | exact of_decide_eq_true qq3 | (have e_ := (Kd.N_reads' HO138.out).1; omega)); obtain ⟨ua145_0, uc145_0, rfl, ul145_0, ge145_0⟩ := Kd.FK_slice_open hMe145; have hv145_0 := hcc145 0 _ rfl; rw [Nat.add_zero, show ((Kd.slice 39 k39)).sz = 1 from rfl, Nat.mul_one] at hv145_0; replace hv145_0 := Option.some.inj (hv145_0.symm.trans hx145_0); injection hv145_0 with hva_ hvn_ hvc_; rw [hva_] at ge145_0; rw [hvc_] at ul145_0; have HL145_0 := Aside0.mk (show Kd.V k39 39 _ w.heap.size _ _ (rd_L4 t136 0) from Kd.V_mk ul145_0 ge145_0); clear hva_ hvn_ hvc_ ge145_0 ul145_0; clear hcc145 hce145; have qi145 : (0 < t136.length) = True := eq_true (by omega); (try rw [show ((0 : Int)).toNat = 0 from rfl] at hx145_0); (try rw [Addr.add_zero'] at hx145_0); have HR145_0 := Aside0.mk hi145_0; have HC145_0 := Aside0.mk hl145_0; clear hi145_0 hl145_0; replace p145 := eq_true p145; replace q145 := eq_true q145))
      go_loopg [23, 24] k1 (fun kq v23 v24 w' => ∃ (x23_2 : Int) (x24_2 : Int), v23 = .int .i64 x23_2 ∧ v24 = .int .i64 x24_2 ∧ Aside0 (partitalaw16_SmfScale.l1 kq true x23_2 x24_2 t134 t135 t136 = some r) ∧ Aside0 (kq ≤ k1) ∧ Aside0 (Kd.N (Kd.slice 39 k39) 33 w' w.heap.size (fun k_ => some k_ ≠ ((.slice (some ad145) t136.length co72) : Value).ownBlock ∧ k_ ≠ gb101 ∧ k_ ≠ gb104 ∧ k_ ≠ gb110 ∧ k_ ≠ gb141) (.slice (some ad142) y129.length co61) y129) ∧ Aside0 (Kd.N (Kd.slice 39 k39) 33 w' w.heap.size (fun k_ => some k_ ≠ ((.slice (some ad142) y129.length co61) : Value).ownBlock ∧ k_ ≠ gb101 ∧ k_ ≠ gb104 ∧ k_ ≠ gb110 ∧ k_ ≠ gb141) (.slice (some ad145) t136.length co72) t136) ∧ Aside0 (w'.heap[gb101]? = some (.cells #[.int .i64 a0_0, .bool a0_1] 23 (0, 0))) ∧ Aside0 (w'.heap[gb104]? = some (.cells #[.int .i64 (wrap64 (t103 - 7)), .bool a0_1] 23 (0, 0))) ∧ Aside0 (w'.heap[gb110]? = some (.cells #[.int .i64 0, .int .i64 (wrap64 (1 + t109)), (.slice (some ad142) y129.length co61)] 32 (0, 0))) ∧ Aside0 (w'.heap[gb141]? = some (.cells #[.int .i64 t134, .int .i64 t135, (.slice (some ad145) t136.length co72)] 32 (0, 0))) ∧ Aside0 (Kd.C k39 w' A142_0 (rd_L4 y129 0).length (rd_L4 y129 0)) ∧ Aside0 (Kd.C k39 w' A145_0 (rd_L4 t136 0).length (rd_L4 t136 0)) ∧ Aside0 (Below w.heap.size w w'))
      case atStart => exact ⟨((-1)), (0), qq6, qq6, H', ⟨Nat.le_refl _⟩, ⟨by (with_reducible repeat (first | apply Kd.N_alloc | apply Kd.N_drewN | apply Kd.N_drew)); exact Kd.N_mono HO131.out (fun _ hk => ⟨hk.2.1, ⟨hk.2.2.1, ⟨hk.2.2.2.1, ⟨hk.2.2.2.2.1, hk.2.2.2.2.2⟩⟩⟩⟩)⟩, ⟨by (with_reducible repeat (first | apply Kd.N_alloc | apply Kd.N_drewN | apply Kd.N_drew)); exact Kd.N_mono HO138.out (fun _ hk => ⟨hk.2.1, ⟨hk.2.2.1, ⟨hk.2.2.2.1, ⟨hk.2.2.2.2.1, hk.2.2.2.2.2⟩⟩⟩⟩)⟩, ⟨bq BK101.out⟩, ⟨bq BK104.out⟩, ⟨bq BK110.out⟩, ⟨bq BK141.out⟩, ⟨by repeat (first | (with_reducible exact HR142_0.out) | (with_reducible refine Kd.C_alloc ?_ _) | (with_reducible refine Kd.C_drewN ?_ _) | (with_reducible refine Kd.C_drew ?_) | exact HR142_0.out)⟩, ⟨by repeat (first | (with_reducible exact HR145_0.out) | (with_reducible refine Kd.C_alloc ?_ _) | (with_reducible refine Kd.C_drewN ?_ _) | (with_reducible refine Kd.C_drew ?_) | exact HR145_0.out)⟩, ⟨qS4 GE101 GE104 GE110 GE141 HB.out⟩⟩
      case round =>
        clear H'
        try clear c1
        try clear p1
        try clear q1
        try clear hx1
        try clear qi1
        try clear c2
        try clear p2
        try clear c3
        try clear c4
        try clear c5
        try clear c6
        try clear p6
        try clear c7
        try clear c8
        try clear c9
        try clear c10
        try clear c11
        try clear p11
        try clear q11
        try clear hx11
        try clear c14
        try clear p14
        try clear q14
        try clear hx14
        try clear qi14
        try clear c16
        try clear c20
        try clear c21
        try clear c23
        try clear c23b0
        try clear c24
        try clear c24b0
        try clear c26
        try clear c26b0
        try clear c26b1
        try clear c27
        try clear c30
        try clear c31
        try clear c40
        try clear c43
        try clear c43b0
        try clear c43b1
        try clear c45
        try clear c45b0
        try clear c45b1
        try clear c46
        try clear c46b0
        try clear c46b1
        try clear c47
        try clear c47b0
        try clear c47b1
        try clear c48
        try clear c48b0
        try clear c48b1
        try clear c49
        try clear c49b0
        try clear c49b1
        try clear c50
        try clear c50b0
        try clear c50b1
        try clear c51
        try clear c51b0
        try clear c51b1
        try clear c52
        try clear c52b0
        try clear c52b1
        try clear c53
        try clear c53b0
        try clear c53b1
        try clear c54
        try clear c54b0
        try clear c54b1
        try clear c62
        try clear c63
        try clear p64
        try clear c68
        try clear c69
        try clear c70
        try clear hcz17_0
        try clear hcz17_1
        try clear hcz22_0
        try clear hcz22_1
        try clear hcz22_2
        try clear hcz32_0
        try clear hcz32_1
        try clear hcz32_2
        try clear hcz64_0
        try clear hcz64_1
        try clear hcz64_2
        try clear hcz71_0
        try clear hcz71_1
        try clear hcz71_2
        try clear hcz74_0
        try clear hcz74_1
        try clear hcz74_2
        try clear hcz76_0
        try clear hcz76_1
        try clear hcz76_2
        try clear hfz17_0
        try clear hfz17_1
        try clear hfz22_0
        try clear hfz22_1
        try clear hfz22_2
        try clear hfz32_0
        try clear hfz32_1
        try clear hfz32_2
        try clear hfz64_0
        try clear hfz64_1
        try clear hfz64_2
        try clear hfz71_0
        try clear hfz71_1
        try clear hfz71_2
        try clear hfz74_0
        try clear hfz74_1
        try clear hfz74_2
        try clear hfz76_0
        try clear hfz76_1
        try clear hfz76_2
        try clear hx111_0
        try clear hx111_1
        try clear hx111_2
        try clear hx142_0
        try clear hx145_0
        try clear p111
        try clear p142
        try clear p145
        try clear p2
        try clear p6
        try clear q111
        try clear q142
        try clear q145
        obtain ⟨x23_2, x24_2, rfl, rfl, HA, HK2, HO_111002, HO_142002, BK101, BK104, BK110, BK141, HR142_0, HR145_0, HB⟩ := hrel
        cases gk with
        | zero => exact absurd HA.out (by simp [partitalaw16_SmfScale.l1])
        | succ k2 =>
          have H := HA.out
          clear HA
          simp only [partitalaw16_SmfScale.l1] at H
          by_cases c77 : x24_2 < 14
          rotate_left
          · rw [if_neg c77] at H
            have c77b0 : decide (x24_2 < 14) = false := decide_eq_false c77
            clear c77
            by_cases c106 : 0 < (t136.length : Int)
            rotate_left
            · rw [if_neg c106] at H
              exact absurd H (by simp)
            rw [if_pos c106] at H
            have c106b0 : decide (0 < (t136.length : Int)) = true := decide_eq_true c106
            have c106b1 : decide (0 < t136.length) = true := decide_eq_true (by omega)
            clear c106
            by_cases c107 : 0 < ((rd_L4 t136 0).length : Int)
            rotate_left
            · rw [if_neg c107] at H
              exact absurd H (by simp)
            rw [if_pos c107] at H
            have c107b0 : decide (0 < ((rd_L4 t136 0).length : Int)) = true := decide_eq_true c107
            have c107b1 : decide (0 < (rd_L4 t136 0).length) = true := decide_eq_true (by omega)
            clear c107
            by_cases c108 : true = true
            rotate_left
            · exact absurd rfl c108
            clear c108
            have H1 : (if (wrap64 ((wrap64 (((rd_T39 (rd_L4 t136 0) 0).f3) + 12)) - x23_2)) = 1 then (some true) else (some ((wrap64 ((wrap64 (((rd_T39 (rd_L4 t136 0) 0).f3) + 12)) - x23_2)) == 2))) = some r := by first | (rw [if_pos rfl] at H; exact H) | (rw [if_pos trivial] at H; exact H)
            clear H
            have H := H1
            clear H1
            by_cases c109 : (wrap64 ((wrap64 (((rd_T39 (rd_L4 t136 0) 0).f3) + 12)) - x23_2)) = 1
            rotate_left
            · rw [if_neg c109] at H
              have c109b0 : ((wrap64 ((wrap64 (((rd_T39 (rd_L4 t136 0) 0).f3) + 12)) - x23_2)) == 1) = false := beq_eq_false_iff_ne.mpr c109
              have c109b1 : ((wrap64 ((wrap64 (((rd_T39 (rd_L4 t136 0) 0).f3) + 12)) - x23_2)) != 1) = true := bne_iff_ne.mpr c109
              obtain rfl := Option.some.inj H
              have hnb114 := NB141_101.out
              have hnc114 := NB101_141.out
              have hnb115 := NB141_104.out
              have hnc115 := NB104_141.out
              have hnb116 := NB141_110.out
              have hnc116 := NB110_141.out
              obtain ⟨hcz117_0, hcz117_1, hcz117_2, hfz117_0, hfz117_1, hfz117_2⟩ := blk3 BK141.out
              have p154 : 0 ≤ (0 : Int) := (by omega)
              have q154 : 0 < (t136.length : Int) := of_decide_eq_true qq3
              obtain ⟨ad154, A154_0, c154_0, e154, hx154_0, hl154_0, hi154_0⟩ := at_L4 (Kd.N_reads' HO_142002.out).2.2 0 p154 q154
              obtain rfl : ad145 = ad154 := (by injection e154)
              obtain ⟨ce154, hce154, hMe154, hcc154⟩ := Kd.N_get HO_142002.out [] 0 p154 qqO
              obtain ⟨ua154_0, uc154_0, rfl, ul154_0, ge154_0⟩ := Kd.FK_slice_open hMe154
              have hv154_0 := hcc154 0 _ rfl
              rw [Nat.add_zero, show ((Kd.slice 39 k39)).sz = 1 from rfl, Nat.mul_one] at hv154_0
              replace hv154_0 := Option.some.inj (hv154_0.symm.trans hx154_0)
              injection hv154_0 with hva_ hvn_ hvc_
              rw [hva_] at ge154_0
              rw [hvc_] at ul154_0
              have HL154_0 := Aside0.mk (show Kd.V k39 39 _ w.heap.size _ _ (rd_L4 t136 0) from Kd.V_mk ul154_0 ge154_0)
              clear hva_ hvn_ hvc_ ge154_0 ul154_0
              clear hcc154 hce154
              have qi154 : (0 < t136.length) = True := eq_true (by omega)
              (try rw [show ((0 : Int)).toNat = 0 from rfl] at hx154_0)
              (try rw [Addr.add_zero'] at hx154_0)
              have HR154_0 := Aside0.mk hi154_0
              have HC154_0 := Aside0.mk hl154_0
              clear hi154_0 hl154_0
              replace p154 := eq_true p154
              replace q154 := eq_true q154
              have p155 : 0 ≤ (0 : Int) := (by omega)
              have q155 : 0 < ((rd_L4 t136 0).length : Int) := of_decide_eq_true qq3
              obtain ⟨ad155, e155, hx155_0, hx155_1, hx155_2, hx155_3, hx155_4, hx155_5⟩ := at_T39 (by repeat (first | (with_reducible exact HR154_0.out) | (with_reducible refine Kd.C_alloc ?_ _) | (with_reducible refine Kd.C_drewN ?_ _) | (with_reducible refine Kd.C_drew ?_) | exact HR154_0.out)) 0 p155 q155
              cases e155
              have qi155 : (0 < (rd_L4 t136 0).length) = True := eq_true (by omega)
              (try rw [show ((0 : Int)).toNat = 0 from rfl] at hx155_0)
              (try rw [show 0 * 6 = 0 from rfl] at hx155_0)
              (try rw [Addr.add_zero'] at hx155_0)
              (try rw [show ((0 : Int)).toNat = 0 from rfl] at hx155_1)
              (try rw [show 0 * 6 = 0 from rfl] at hx155_1)
              (try rw [Addr.add_zero'] at hx155_1)
              (try rw [show ((0 : Int)).toNat = 0 from rfl] at hx155_2)
              (try rw [show 0 * 6 = 0 from rfl] at hx155_2)
              (try rw [Addr.add_zero'] at hx155_2)
              (try rw [show ((0 : Int)).toNat = 0 from rfl] at hx155_3)
              (try rw [show 0 * 6 = 0 from rfl] at hx155_3)
              (try rw [Addr.add_zero'] at hx155_3)
              (try rw [show ((0 : Int)).toNat = 0 from rfl] at hx155_4)
              (try rw [show 0 * 6 = 0 from rfl] at hx155_4)
              (try rw [Addr.add_zero'] at hx155_4)
              (try rw [show ((0 : Int)).toNat = 0 from rfl] at hx155_5)
              (try rw [show 0 * 6 = 0 from rfl] at hx155_5)
              (try rw [Addr.add_zero'] at hx155_5)
              replace p155 := eq_true p155
              replace q155 := eq_true q155
              go_wp2
              go_ret
              exact ⟨qq4, qS4 GE101 GE104 GE110 GE141 HB.out⟩
            rw [if_pos c109] at H
            have c109b0 : ((wrap64 ((wrap64 (((rd_T39 (rd_L4 t136 0) 0).f3) + 12)) - x23_2)) == 1) = true := beq_iff_eq.mpr c109
            have c109b1 : ((wrap64 ((wrap64 (((rd_T39 (rd_L4 t136 0) 0).f3) + 12)) - x23_2)) != 1) = false := bne_eq_false_iff_eq.mpr c109
            clear c109
            obtain rfl := Option.some.inj H
            have hnb110 := NB141_101.out
            have hnc110 := NB101_141.out
            have hnb111 := NB141_104.out
            have hnc111 := NB104_141.out
            have hnb112 := NB141_110.out
            have hnc112 := NB110_141.out
            obtain ⟨hcz113_0, hcz113_1, hcz113_2, hfz113_0, hfz113_1, hfz113_2⟩ := blk3 BK141.out
            have p154 : 0 ≤ (0 : Int) := (by omega)
            have q154 : 0 < (t136.length : Int) := of_decide_eq_true qq3
            obtain ⟨ad154, A154_0, c154_0, e154, hx154_0, hl154_0, hi154_0⟩ := at_L4 (Kd.N_reads' HO_142002.out).2.2 0 p154 q154
            obtain rfl : ad145 = ad154 := (by injection e154)
            obtain ⟨ce154, hce154, hMe154, hcc154⟩ := Kd.N_get HO_142002.out [] 0 p154 qqO
            obtain ⟨ua154_0, uc154_0, rfl, ul154_0, ge154_0⟩ := Kd.FK_slice_open hMe154
            have hv154_0 := hcc154 0 _ rfl
            rw [Nat.add_zero, show ((Kd.slice 39 k39)).sz = 1 from rfl, Nat.mul_one] at hv154_0
            replace hv154_0 := Option.some.inj (hv154_0.symm.trans hx154_0)
            injection hv154_0 with hva_ hvn_ hvc_
            rw [hva_] at ge154_0
            rw [hvc_] at ul154_0
            have HL154_0 := Aside0.mk (show Kd.V k39 39 _ w.heap.size _ _ (rd_L4 t136 0) from Kd.V_mk ul154_0 ge154_0)
            clear hva_ hvn_ hvc_ ge154_0 ul154_0
            clear hcc154 hce154
            have qi154 : (0 < t136.length) = True := eq_true (by omega)
            (try rw [show ((0 : Int)).toNat = 0 from rfl] at hx154_0)
            (try rw [Addr.add_zero'] at hx154_0)
            have HR154_0 := Aside0.mk hi154_0
            have HC154_0 := Aside0.mk hl154_0
            clear hi154_0 hl154_0
            replace p154 := eq_true p154
            replace q154 := eq_true q154
            have p155 : 0 ≤ (0 : Int) := (by omega)
            have q155 : 0 < ((rd_L4 t136 0).length : Int) := of_decide_eq_true qq3
            obtain ⟨ad155, e155, hx155_0, hx155_1, hx155_2, hx155_3, hx155_4, hx155_5⟩ := at_T39 (by repeat (first | (with_reducible exact HR154_0.out) | (with_reducible refine Kd.C_alloc ?_ _) | (with_reducible refine Kd.C_drewN ?_ _) | (with_reducible refine Kd.C_drew ?_) | exact HR154_0.out)) 0 p155 q155
            cases e155
            have qi155 : (0 < (rd_L4 t136 0).length) = True := eq_true (by omega)
            (try rw [show ((0 : Int)).toNat = 0 from rfl] at hx155_0)
            (try rw [show 0 * 6 = 0 from rfl] at hx155_0)
            (try rw [Addr.add_zero'] at hx155_0)
            (try rw [show ((0 : Int)).toNat = 0 from rfl] at hx155_1)
            (try rw [show 0 * 6 = 0 from rfl] at hx155_1)
            (try rw [Addr.add_zero'] at hx155_1)
            (try rw [show ((0 : Int)).toNat = 0 from rfl] at hx155_2)
            (try rw [show 0 * 6 = 0 from rfl] at hx155_2)
            (try rw [Addr.add_zero'] at hx155_2)
            (try rw [show ((0 : Int)).toNat = 0 from rfl] at hx155_3)
            (try rw [show 0 * 6 = 0 from rfl] at hx155_3)
            (try rw [Addr.add_zero'] at hx155_3)
            (try rw [show ((0 : Int)).toNat = 0 from rfl] at hx155_4)
            (try rw [show 0 * 6 = 0 from rfl] at hx155_4)
            (try rw [Addr.add_zero'] at hx155_4)
            (try rw [show ((0 : Int)).toNat = 0 from rfl] at hx155_5)
            (try rw [show 0 * 6 = 0 from rfl] at hx155_5)
            (try rw [Addr.add_zero'] at hx155_5)
            replace p155 := eq_true p155
            replace q155 := eq_true q155
            go_wp2
            go_ret
            exact ⟨qq4, qS4 GE101 GE104 GE110 GE141 HB.out⟩
          rw [if_pos c77] at H
          have c77b0 : decide (x24_2 < 14) = true := decide_eq_true c77
          clear c77
          by_cases c78 : 0 < (t136.length : Int)
          rotate_left
          · rw [if_neg c78] at H
            exact absurd H (by simp)
          rw [if_pos c78] at H
          have c78b0 : decide (0 < (t136.length : Int)) = true := decide_eq_true c78
          have c78b1 : decide (0 < t136.length) = true := decide_eq_true (by omega)
          clear c78
          by_cases c79 : 0 ≤ x24_2
          rotate_left
          · rw [if_neg c79] at H
            exact absurd H (by simp)
          rw [if_pos c79] at H
          have c79b0 : decide (0 ≤ x24_2) = true := decide_eq_true c79
          clear c79
          by_cases c80 : x24_2 < ((rd_L4 t136 0).length : Int)
          rotate_left
          · rw [if_neg c80] at H
            exact absurd H (by simp)
          rw [if_pos c80] at H
          have c80b0 : decide (x24_2 < ((rd_L4 t136 0).length : Int)) = true := decide_eq_true c80
          clear c80
          obtain ⟨ji81, hji81⟩ : ∃ j_ : Int, (wrap64 (x24_2 + 1)) = j_ := ⟨_, rfl⟩
          replace H : (if 0 ≤ (ji81) then (if (ji81) < ((rd_L4 t136 0).length : Int) then (if ((rd_T39 (rd_L4 t136 0) (ji81)).f3) = ((rd_T39 (rd_L4 t136 0) x24_2).f3) then (if ((rd_T39 (rd_L4 t136 0) (ji81)).f4) = 0 then (if ((rd_T39 (rd_L4 t136 0) x24_2).f4) = 64 then (if x23_2 ≥ 0 then (if (wrap64 (((rd_T39 (rd_L4 t136 0) x24_2).f3) - x23_2)) = 1 then (partitalaw16_SmfScale.l1 k2 true ((rd_T39 (rd_L4 t136 0) x24_2).f3) (wrap64 (x24_2 + 2)) t134 t135 t136) else (if (wrap64 (((rd_T39 (rd_L4 t136 0) x24_2).f3) - x23_2)) = 2 then (partitalaw16_SmfScale.l1 k2 true ((rd_T39 (rd_L4 t136 0) x24_2).f3) (wrap64 (x24_2 + 2)) t134 t135 t136) else (some false))) else (partitalaw16_SmfScale.l1 k2 true ((rd_T39 (rd_L4 t136 0) x24_2).f3) (wrap64 (x24_2 + 2)) t134 t135 t136)) else (none)) else (none)) else (none)) else (none)) else (none)) = some r := by first | (rw [hji81] at H; exact H) | (simp only [hji81] at H ⊢; exact H)
          have hji81w : (IntKind.i64.wrap (x24_2 + 1)) = ji81 := (i64_w _).trans hji81
          by_cases c82 : 0 ≤ (ji81)
          rotate_left
          · rw [if_neg c82] at H
            exact absurd H (by simp)
          rw [if_pos c82] at H
          have c82b0 : decide (0 ≤ (ji81)) = true := decide_eq_true c82
          clear c82
          by_cases c83 : (ji81) < ((rd_L4 t136 0).length : Int)
          rotate_left
          · rw [if_neg c83] at H
            exact absurd H (by simp)
          rw [if_pos c83] at H
          have c83b0 : decide ((ji81) < ((rd_L4 t136 0).length : Int)) = true := decide_eq_true c83
          clear c83
          by_cases c84 : ((rd_T39 (rd_L4 t136 0) (ji81)).f3) = ((rd_T39 (rd_L4 t136 0) x24_2).f3)
          rotate_left
          · rw [if_neg c84] at H
            exact absurd H (by simp)
          rw [if_pos c84] at H
          have c84b0 : (((rd_T39 (rd_L4 t136 0) (ji81)).f3) == ((rd_T39 (rd_L4 t136 0) x24_2).f3)) = true := beq_iff_eq.mpr c84
          have c84b1 : (((rd_T39 (rd_L4 t136 0) (ji81)).f3) != ((rd_T39 (rd_L4 t136 0) x24_2).f3)) = false := bne_eq_false_iff_eq.mpr c84
          clear c84
          by_cases c85 : ((rd_T39 (rd_L4 t136 0) (ji81)).f4) = 0
          rotate_left
          · rw [if_neg c85] at H
            exact absurd H (by simp)
          rw [if_pos c85] at H
          have c85b0 : (((rd_T39 (rd_L4 t136 0) (ji81)).f4) == 0) = true := beq_iff_eq.mpr c85
          have c85b1 : (((rd_T39 (rd_L4 t136 0) (ji81)).f4) != 0) = false := bne_eq_false_iff_eq.mpr c85
          clear c85
          by_cases c86 : ((rd_T39 (rd_L4 t136 0) x24_2).f4) = 64
          rotate_left
          · rw [if_neg c86] at H
            exact absurd H (by simp)
          rw [if_pos c86] at H
          have c86b0 : (((rd_T39 (rd_L4 t136 0) x24_2).f4) == 64) = true := beq_iff_eq.mpr c86
          have c86b1 : (((rd_T39 (rd_L4 t136 0) x24_2).f4) != 64) = false := bne_eq_false_iff_eq.mpr c86
          clear c86
          by_cases c87 : x23_2 ≥ 0
          rotate_left
          · rw [if_neg c87] at H
            have c87b0 : decide (0 ≤ x23_2) = false := decide_eq_false c87
            clear c87
            have H' := Aside0.mk H
            clear H
            have hnb102 := NB141_101.out
            have hnc102 := NB101_141.out
            have hnb103 := NB141_104.out
            have hnc103 := NB104_141.out
            have hnb104 := NB141_110.out
            have hnc104 := NB110_141.out
            obtain ⟨hcz105_0, hcz105_1, hcz105_2, hfz105_0, hfz105_1, hfz105_2⟩ := blk3 BK141.out
            have p146 : 0 ≤ (0 : Int) := (by omega)
            have q146 : 0 < (t136.length : Int) := of_decide_eq_true qq3
            obtain ⟨ad146, A146_0, c146_0, e146, hx146_0, hl146_0, hi146_0⟩ := at_L4 (Kd.N_reads' HO_142002.out).2.2 0 p146 q146
            obtain rfl : ad145 = ad146 := (by injection e146)
            obtain ⟨ce146, hce146, hMe146, hcc146⟩ := Kd.N_get HO_142002.out [] 0 p146 qqw
            obtain ⟨ua146_0, uc146_0, rfl, ul146_0, ge146_0⟩ := Kd.FK_slice_open hMe146
            have hv146_0 := hcc146 0 _ rfl
            rw [Nat.add_zero, show ((Kd.slice 39 k39)).sz = 1 from rfl, Nat.mul_one] at hv146_0
            replace hv146_0 := Option.some.inj (hv146_0.symm.trans hx146_0)
            injection hv146_0 with hva_ hvn_ hvc_
            rw [hva_] at ge146_0
            rw [hvc_] at ul146_0
            have HL146_0 := Aside0.mk (show Kd.V k39 39 _ w.heap.size _ _ (rd_L4 t136 0) from Kd.V_mk ul146_0 ge146_0)
            clear hva_ hvn_ hvc_ ge146_0 ul146_0
            clear hcc146 hce146
            have qi146 : (0 < t136.length) = True := eq_true (by omega)
            (try rw [show ((0 : Int)).toNat = 0 from rfl] at hx146_0)
            (try rw [Addr.add_zero'] at hx146_0)
            have HR146_0 := Aside0.mk hi146_0
            have HC146_0 := Aside0.mk hl146_0
            clear hi146_0 hl146_0
            replace p146 := eq_true p146
            replace q146 := eq_true q146
            have p147 : 0 ≤ (x24_2 : Int) := of_decide_eq_true qq3
            have q147 : x24_2 < ((rd_L4 t136 0).length : Int) := of_decide_eq_true qq3
            obtain ⟨ad147, e147, hx147_0, hx147_1, hx147_2, hx147_3, hx147_4, hx147_5⟩ := at_T39 (by repeat (first | (with_reducible exact HR146_0.out) | (with_reducible refine Kd.C_alloc ?_ _) | (with_reducible refine Kd.C_drewN ?_ _) | (with_reducible refine Kd.C_drew ?_) | exact HR146_0.out)) x24_2 p147 q147
            cases e147
            replace p147 := eq_true p147
            replace q147 := eq_true q147
            have p148 : 0 ≤ (0 : Int) := (by omega)
            have q148 : 0 < (t136.length : Int) := of_decide_eq_true qq3
            obtain ⟨ad148, A148_0, c148_0, e148, hx148_0, hl148_0, hi148_0⟩ := at_L4 (Kd.N_reads' HO_142002.out).2.2 0 p148 q148
            obtain rfl : ad145 = ad148 := (by injection e148)
            obtain ⟨ce148, hce148, hMe148, hcc148⟩ := Kd.N_get HO_142002.out [] 0 p148 qqv
            obtain ⟨ua148_0, uc148_0, rfl, ul148_0, ge148_0⟩ := Kd.FK_slice_open hMe148
            have hv148_0 := hcc148 0 _ rfl
            rw [Nat.add_zero, show ((Kd.slice 39 k39)).sz = 1 from rfl, Nat.mul_one] at hv148_0
            replace hv148_0 := Option.some.inj (hv148_0.symm.trans hx148_0)
            injection hv148_0 with hva_ hvn_ hvc_
            rw [hva_] at ge148_0
            rw [hvc_] at ul148_0
            have HL148_0 := Aside0.mk (show Kd.V k39 39 _ w.heap.size _ _ (rd_L4 t136 0) from Kd.V_mk ul148_0 ge148_0)
            clear hva_ hvn_ hvc_ ge148_0 ul148_0
            clear hcc148 hce148
            have qi148 : (0 < t136.length) = True := eq_true (by omega)
            (try rw [show ((0 : Int)).toNat = 0 from rfl] at hx148_0)
            (try rw [Addr.add_zero'] at hx148_0)
            have HR148_0 := Aside0.mk hi148_0
            have HC148_0 := Aside0.mk hl148_0
            clear hi148_0 hl148_0
            replace p148 := eq_true p148
            replace q148 := eq_true q148
            have ea_ := Option.some.inj (hx146_0.symm.trans hx148_0)
            injection ea_ with ea_ en_ ec_
            subst ea_
            subst ec_
            clear en_
            have p149 : 0 ≤ ((ji81) : Int) := of_decide_eq_true qq3
            have q149 : (ji81) < ((rd_L4 t136 0).length : Int) := of_decide_eq_true qq3
            obtain ⟨ad149, e149, hx149_0, hx149_1, hx149_2, hx149_3, hx149_4, hx149_5⟩ := at_T39 (by repeat (first | (with_reducible exact HR148_0.out) | (with_reducible refine Kd.C_alloc ?_ _) | (with_reducible refine Kd.C_drewN ?_ _) | (with_reducible refine Kd.C_drew ?_) | exact HR148_0.out)) (ji81) p149 q149
            cases e149
            replace p149 := eq_true p149
            replace q149 := eq_true q149
            have p150 : 0 ≤ (0 : Int) := (by omega)
            have q150 : 0 < (t136.length : Int) := of_decide_eq_true qq3
            obtain ⟨ad150, A150_0, c150_0, e150, hx150_0, hl150_0, hi150_0⟩ := at_L4 (Kd.N_reads' HO_142002.out).2.2 0 p150 q150
            obtain rfl : ad145 = ad150 := (by injection e150)
            obtain ⟨ce150, hce150, hMe150, hcc150⟩ := Kd.N_get HO_142002.out [] 0 p150 qqu
            obtain ⟨ua150_0, uc150_0, rfl, ul150_0, ge150_0⟩ := Kd.FK_slice_open hMe150
            have hv150_0 := hcc150 0 _ rfl
            rw [Nat.add_zero, show ((Kd.slice 39 k39)).sz = 1 from rfl, Nat.mul_one] at hv150_0
            replace hv150_0 := Option.some.inj (hv150_0.symm.trans hx150_0)
            injection hv150_0 with hva_ hvn_ hvc_
            rw [hva_] at ge150_0
            rw [hvc_] at ul150_0
            have HL150_0 := Aside0.mk (show Kd.V k39 39 _ w.heap.size _ _ (rd_L4 t136 0) from Kd.V_mk ul150_0 ge150_0)
            clear hva_ hvn_ hvc_ ge150_0 ul150_0
            clear hcc150 hce150
            have qi150 : (0 < t136.length) = True := eq_true (by omega)
            (try rw [show ((0 : Int)).toNat = 0 from rfl] at hx150_0)
            (try rw [Addr.add_zero'] at hx150_0)
            have HR150_0 := Aside0.mk hi150_0
            have HC150_0 := Aside0.mk hl150_0
            clear hi150_0 hl150_0
            replace p150 := eq_true p150
            replace q150 := eq_true q150
            have ea_ := Option.some.inj (hx146_0.symm.trans hx150_0)
            injection ea_ with ea_ en_ ec_
            subst ea_
            subst ec_
            clear en_
            have p151 : 0 ≤ ((ji81) : Int) := of_decide_eq_true qq3
            have q151 : (ji81) < ((rd_L4 t136 0).length : Int) := of_decide_eq_true qq3
            obtain ⟨ad151, e151, hx151_0, hx151_1, hx151_2, hx151_3, hx151_4, hx151_5⟩ := at_T39 (by repeat (first | (with_reducible exact HR150_0.out) | (with_reducible refine Kd.C_alloc ?_ _) | (with_reducible refine Kd.C_drewN ?_ _) | (with_reducible refine Kd.C_drew ?_) | exact HR150_0.out)) (ji81) p151 q151
            cases e151
            replace p151 := eq_true p151
            replace q151 := eq_true q151
            have p152 : 0 ≤ (0 : Int) := (by omega)
            have q152 : 0 < (t136.length : Int) := of_decide_eq_true qq3
            obtain ⟨ad152, A152_0, c152_0, e152, hx152_0, hl152_0, hi152_0⟩ := at_L4 (Kd.N_reads' HO_142002.out).2.2 0 p152 q152
            obtain rfl : ad145 = ad152 := (by injection e152)
            obtain ⟨ce152, hce152, hMe152, hcc152⟩ := Kd.N_get HO_142002.out [] 0 p152 qqt
            obtain ⟨ua152_0, uc152_0, rfl, ul152_0, ge152_0⟩ := Kd.FK_slice_open hMe152
            have hv152_0 := hcc152 0 _ rfl
            rw [Nat.add_zero, show ((Kd.slice 39 k39)).sz = 1 from rfl, Nat.mul_one] at hv152_0
            replace hv152_0 := Option.some.inj (hv152_0.symm.trans hx152_0)
            injection hv152_0 with hva_ hvn_ hvc_
            rw [hva_] at ge152_0
            rw [hvc_] at ul152_0
            have HL152_0 := Aside0.mk (show Kd.V k39 39 _ w.heap.size _ _ (rd_L4 t136 0) from Kd.V_mk ul152_0 ge152_0)
            clear hva_ hvn_ hvc_ ge152_0 ul152_0
            clear hcc152 hce152
            have qi152 : (0 < t136.length) = True := eq_true (by omega)
            (try rw [show ((0 : Int)).toNat = 0 from rfl] at hx152_0)
            (try rw [Addr.add_zero'] at hx152_0)
            have HR152_0 := Aside0.mk hi152_0
            have HC152_0 := Aside0.mk hl152_0
            clear hi152_0 hl152_0
            replace p152 := eq_true p152
            replace q152 := eq_true q152
            have ea_ := Option.some.inj (hx146_0.symm.trans hx152_0)
            injection ea_ with ea_ en_ ec_
            subst ea_
            subst ec_
            clear en_
            have p153 : 0 ≤ (x24_2 : Int) := of_decide_eq_true qq3
            have q153 : x24_2 < ((rd_L4 t136 0).length : Int) := of_decide_eq_true qq3
            obtain ⟨ad153, e153, hx153_0, hx153_1, hx153_2, hx153_3, hx153_4, hx153_5⟩ := at_T39 (by repeat (first | (with_reducible exact HR152_0.out) | (with_reducible refine Kd.C_alloc ?_ _) | (with_reducible refine Kd.C_drewN ?_ _) | (with_reducible refine Kd.C_drew ?_) | exact HR152_0.out)) x24_2 p153 q153
            cases e153
            replace p153 := eq_true p153
            replace q153 := eq_true q153
            go_wp2
            go_roundg k2
            case measure => have := HK1.out; have := HK2.out; omega
            case rel => exact ⟨((rd_T39 (rd_L4 t136 0) x24_2).f3), (wrap64 (x24_2 + 2)), qq6, qq6, H', ⟨qqL⟩, ⟨qN HO_111002.out⟩, ⟨qN HO_142002.out⟩, ⟨bq BK101.out⟩, ⟨bq BK104.out⟩, ⟨bq BK110.out⟩, ⟨bq BK141.out⟩, ⟨by repeat (first | (with_reducible exact HR142_0.out) | (with_reducible refine Kd.C_alloc ?_ _) | (with_reducible refine Kd.C_drewN ?_ _) | (with_reducible refine Kd.C_drew ?_) | exact HR142_0.out)⟩, ⟨by repeat (first | (with_reducible exact HR145_0.out) | (with_reducible refine Kd.C_alloc ?_ _) | (with_reducible refine Kd.C_drewN ?_ _) | (with_reducible refine Kd.C_drew ?_) | exact HR145_0.out)⟩, ⟨qS4 GE101 GE104 GE110 GE141 HB.out⟩⟩
          rw [if_pos c87] at H
          have c87b0 : decide (0 ≤ x23_2) = true := decide_eq_true c87
          clear c87
          by_cases c88 : (wrap64 (((rd_T39 (rd_L4 t136 0) x24_2).f3) - x23_2)) = 1
          · rw [if_pos c88] at H
            have c88b0 : ((wrap64 (((rd_T39 (rd_L4 t136 0) x24_2).f3) - x23_2)) == 1) = true := beq_iff_eq.mpr c88
            have c88b1 : ((wrap64 (((rd_T39 (rd_L4 t136 0) x24_2).f3) - x23_2)) != 1) = false := bne_eq_false_iff_eq.mpr c88
            clear c88
            have H' := Aside0.mk H
            clear H
            have hnb89 := NB141_101.out
            have hnc89 := NB101_141.out
            have hnb90 := NB141_104.out
            have hnc90 := NB104_141.out
            have hnb91 := NB141_110.out
            have hnc91 := NB110_141.out
            obtain ⟨hcz92_0, hcz92_1, hcz92_2, hfz92_0, hfz92_1, hfz92_2⟩ := blk3 BK141.out
            have p146 : 0 ≤ (0 : Int) := (by omega)
            have q146 : 0 < (t136.length : Int) := of_decide_eq_true qq3
            obtain ⟨ad146, A146_0, c146_0, e146, hx146_0, hl146_0, hi146_0⟩ := at_L4 (Kd.N_reads' HO_142002.out).2.2 0 p146 q146
            obtain rfl : ad145 = ad146 := (by injection e146)
            obtain ⟨ce146, hce146, hMe146, hcc146⟩ := Kd.N_get HO_142002.out [] 0 p146 qqw
            obtain ⟨ua146_0, uc146_0, rfl, ul146_0, ge146_0⟩ := Kd.FK_slice_open hMe146
            have hv146_0 := hcc146 0 _ rfl
            rw [Nat.add_zero, show ((Kd.slice 39 k39)).sz = 1 from rfl, Nat.mul_one] at hv146_0
            replace hv146_0 := Option.some.inj (hv146_0.symm.trans hx146_0)
            injection hv146_0 with hva_ hvn_ hvc_
            rw [hva_] at ge146_0
            rw [hvc_] at ul146_0
            have HL146_0 := Aside0.mk (show Kd.V k39 39 _ w.heap.size _ _ (rd_L4 t136 0) from Kd.V_mk ul146_0 ge146_0)
            clear hva_ hvn_ hvc_ ge146_0 ul146_0
            clear hcc146 hce146
            have qi146 : (0 < t136.length) = True := eq_true (by omega)
            (try rw [show ((0 : Int)).toNat = 0 from rfl] at hx146_0)
            (try rw [Addr.add_zero'] at hx146_0)
            have HR146_0 := Aside0.mk hi146_0
            have HC146_0 := Aside0.mk hl146_0
            clear hi146_0 hl146_0
            replace p146 := eq_true p146
            replace q146 := eq_true q146
            have p147 : 0 ≤ (x24_2 : Int) := of_decide_eq_true qq3
            have q147 : x24_2 < ((rd_L4 t136 0).length : Int) := of_decide_eq_true qq3
            obtain ⟨ad147, e147, hx147_0, hx147_1, hx147_2, hx147_3, hx147_4, hx147_5⟩ := at_T39 (by repeat (first | (with_reducible exact HR146_0.out) | (with_reducible refine Kd.C_alloc ?_ _) | (with_reducible refine Kd.C_drewN ?_ _) | (with_reducible refine Kd.C_drew ?_) | exact HR146_0.out)) x24_2 p147 q147
            cases e147
            replace p147 := eq_true p147
            replace q147 := eq_true q147
            have p148 : 0 ≤ (0 : Int) := (by omega)
            have q148 : 0 < (t136.length : Int) := of_decide_eq_true qq3
            obtain ⟨ad148, A148_0, c148_0, e148, hx148_0, hl148_0, hi148_0⟩ := at_L4 (Kd.N_reads' HO_142002.out).2.2 0 p148 q148
            obtain rfl : ad145 = ad148 := (by injection e148)
            obtain ⟨ce148, hce148, hMe148, hcc148⟩ := Kd.N_get HO_142002.out [] 0 p148 qqv
            obtain ⟨ua148_0, uc148_0, rfl, ul148_0, ge148_0⟩ := Kd.FK_slice_open hMe148
            have hv148_0 := hcc148 0 _ rfl
            rw [Nat.add_zero, show ((Kd.slice 39 k39)).sz = 1 from rfl, Nat.mul_one] at hv148_0
            replace hv148_0 := Option.some.inj (hv148_0.symm.trans hx148_0)
            injection hv148_0 with hva_ hvn_ hvc_
            rw [hva_] at ge148_0
            rw [hvc_] at ul148_0
            have HL148_0 := Aside0.mk (show Kd.V k39 39 _ w.heap.size _ _ (rd_L4 t136 0) from Kd.V_mk ul148_0 ge148_0)
            clear hva_ hvn_ hvc_ ge148_0 ul148_0
            clear hcc148 hce148
            have qi148 : (0 < t136.length) = True := eq_true (by omega)
            (try rw [show ((0 : Int)).toNat = 0 from rfl] at hx148_0)
            (try rw [Addr.add_zero'] at hx148_0)
            have HR148_0 := Aside0.mk hi148_0
            have HC148_0 := Aside0.mk hl148_0
            clear hi148_0 hl148_0
            replace p148 := eq_true p148
            replace q148 := eq_true q148
            have ea_ := Option.some.inj (hx146_0.symm.trans hx148_0)
            injection ea_ with ea_ en_ ec_
            subst ea_
            subst ec_
            clear en_
            have p149 : 0 ≤ ((ji81) : Int) := of_decide_eq_true qq3
            have q149 : (ji81) < ((rd_L4 t136 0).length : Int) := of_decide_eq_true qq3
            obtain ⟨ad149, e149, hx149_0, hx149_1, hx149_2, hx149_3, hx149_4, hx149_5⟩ := at_T39 (by repeat (first | (with_reducible exact HR148_0.out) | (with_reducible refine Kd.C_alloc ?_ _) | (with_reducible refine Kd.C_drewN ?_ _) | (with_reducible refine Kd.C_drew ?_) | exact HR148_0.out)) (ji81) p149 q149
            cases e149
            replace p149 := eq_true p149
            replace q149 := eq_true q149
            have p150 : 0 ≤ (0 : Int) := (by omega)
            have q150 : 0 < (t136.length : Int) := of_decide_eq_true qq3
            obtain ⟨ad150, A150_0, c150_0, e150, hx150_0, hl150_0, hi150_0⟩ := at_L4 (Kd.N_reads' HO_142002.out).2.2 0 p150 q150
            obtain rfl : ad145 = ad150 := (by injection e150)
            obtain ⟨ce150, hce150, hMe150, hcc150⟩ := Kd.N_get HO_142002.out [] 0 p150 qqu
            obtain ⟨ua150_0, uc150_0, rfl, ul150_0, ge150_0⟩ := Kd.FK_slice_open hMe150
            have hv150_0 := hcc150 0 _ rfl
            rw [Nat.add_zero, show ((Kd.slice 39 k39)).sz = 1 from rfl, Nat.mul_one] at hv150_0
            replace hv150_0 := Option.some.inj (hv150_0.symm.trans hx150_0)
            injection hv150_0 with hva_ hvn_ hvc_
            rw [hva_] at ge150_0
            rw [hvc_] at ul150_0
            have HL150_0 := Aside0.mk (show Kd.V k39 39 _ w.heap.size _ _ (rd_L4 t136 0) from Kd.V_mk ul150_0 ge150_0)
            clear hva_ hvn_ hvc_ ge150_0 ul150_0
            clear hcc150 hce150
            have qi150 : (0 < t136.length) = True := eq_true (by omega)
            (try rw [show ((0 : Int)).toNat = 0 from rfl] at hx150_0)
            (try rw [Addr.add_zero'] at hx150_0)
            have HR150_0 := Aside0.mk hi150_0
            have HC150_0 := Aside0.mk hl150_0
            clear hi150_0 hl150_0
            replace p150 := eq_true p150
            replace q150 := eq_true q150
            have ea_ := Option.some.inj (hx146_0.symm.trans hx150_0)
            injection ea_ with ea_ en_ ec_
            subst ea_
            subst ec_
            clear en_
            have p151 : 0 ≤ ((ji81) : Int) := of_decide_eq_true qq3
            have q151 : (ji81) < ((rd_L4 t136 0).length : Int) := of_decide_eq_true qq3
            obtain ⟨ad151, e151, hx151_0, hx151_1, hx151_2, hx151_3, hx151_4, hx151_5⟩ := at_T39 (by repeat (first | (with_reducible exact HR150_0.out) | (with_reducible refine Kd.C_alloc ?_ _) | (with_reducible refine Kd.C_drewN ?_ _) | (with_reducible refine Kd.C_drew ?_) | exact HR150_0.out)) (ji81) p151 q151
            cases e151
            replace p151 := eq_true p151
            replace q151 := eq_true q151
            have p152 : 0 ≤ (0 : Int) := (by omega)
            have q152 : 0 < (t136.length : Int) := of_decide_eq_true qq3
            obtain ⟨ad152, A152_0, c152_0, e152, hx152_0, hl152_0, hi152_0⟩ := at_L4 (Kd.N_reads' HO_142002.out).2.2 0 p152 q152
            obtain rfl : ad145 = ad152 := (by injection e152)
            obtain ⟨ce152, hce152, hMe152, hcc152⟩ := Kd.N_get HO_142002.out [] 0 p152 qqt
            obtain ⟨ua152_0, uc152_0, rfl, ul152_0, ge152_0⟩ := Kd.FK_slice_open hMe152
            have hv152_0 := hcc152 0 _ rfl
            rw [Nat.add_zero, show ((Kd.slice 39 k39)).sz = 1 from rfl, Nat.mul_one] at hv152_0
            replace hv152_0 := Option.some.inj (hv152_0.symm.trans hx152_0)
            injection hv152_0 with hva_ hvn_ hvc_
            rw [hva_] at ge152_0
            rw [hvc_] at ul152_0
            have HL152_0 := Aside0.mk (show Kd.V k39 39 _ w.heap.size _ _ (rd_L4 t136 0) from Kd.V_mk ul152_0 ge152_0)
            clear hva_ hvn_ hvc_ ge152_0 ul152_0
            clear hcc152 hce152
            have qi152 : (0 < t136.length) = True := eq_true (by omega)
            (try rw [show ((0 : Int)).toNat = 0 from rfl] at hx152_0)
            (try rw [Addr.add_zero'] at hx152_0)
            have HR152_0 := Aside0.mk hi152_0
            have HC152_0 := Aside0.mk hl152_0
            clear hi152_0 hl152_0
            replace p152 := eq_true p152
            replace q152 := eq_true q152
            have ea_ := Option.some.inj (hx146_0.symm.trans hx152_0)
            injection ea_ with ea_ en_ ec_
            subst ea_
            subst ec_
            clear en_
            have p153 : 0 ≤ (x24_2 : Int) := of_decide_eq_true qq3
            have q153 : x24_2 < ((rd_L4 t136 0).length : Int) := of_decide_eq_true qq3
            obtain ⟨ad153, e153, hx153_0, hx153_1, hx153_2, hx153_3, hx153_4, hx153_5⟩ := at_T39 (by repeat (first | (with_reducible exact HR152_0.out) | (with_reducible refine Kd.C_alloc ?_ _) | (with_reducible refine Kd.C_drewN ?_ _) | (with_reducible refine Kd.C_drew ?_) | exact HR152_0.out)) x24_2 p153 q153
            cases e153
            replace p153 := eq_true p153
            replace q153 := eq_true q153
            go_wp2
            go_roundg k2
            case measure => have := HK1.out; have := HK2.out; omega
            case rel => exact ⟨((rd_T39 (rd_L4 t136 0) x24_2).f3), (wrap64 (x24_2 + 2)), qq6, qq6, H', ⟨qqL⟩, ⟨qN HO_111002.out⟩, ⟨qN HO_142002.out⟩, ⟨bq BK101.out⟩, ⟨bq BK104.out⟩, ⟨bq BK110.out⟩, ⟨bq BK141.out⟩, ⟨by repeat (first | (with_reducible exact HR142_0.out) | (with_reducible refine Kd.C_alloc ?_ _) | (with_reducible refine Kd.C_drewN ?_ _) | (with_reducible refine Kd.C_drew ?_) | exact HR142_0.out)⟩, ⟨by repeat (first | (with_reducible exact HR145_0.out) | (with_reducible refine Kd.C_alloc ?_ _) | (with_reducible refine Kd.C_drewN ?_ _) | (with_reducible refine Kd.C_drew ?_) | exact HR145_0.out)⟩, ⟨qS4 GE101 GE104 GE110 GE141 HB.out⟩⟩
          rw [if_neg c88] at H
          have c88b0 : ((wrap64 (((rd_T39 (rd_L4 t136 0) x24_2).f3) - x23_2)) == 1) = false := beq_eq_false_iff_ne.mpr c88
          have c88b1 : ((wrap64 (((rd_T39 (rd_L4 t136 0) x24_2).f3) - x23_2)) != 1) = true := bne_iff_ne.mpr c88
          by_cases c93 : (wrap64 (((rd_T39 (rd_L4 t136 0) x24_2).f3) - x23_2)) = 2
          rotate_left
          · rw [if_neg c93] at H
            have c93b0 : ((wrap64 (((rd_T39 (rd_L4 t136 0) x24_2).f3) - x23_2)) == 2) = false := beq_eq_false_iff_ne.mpr c93
            have c93b1 : ((wrap64 (((rd_T39 (rd_L4 t136 0) x24_2).f3) - x23_2)) != 2) = true := bne_iff_ne.mpr c93
            obtain rfl := Option.some.inj H
            have hnb98 := NB141_101.out
            have hnc98 := NB101_141.out
            have hnb99 := NB141_104.out
            have hnc99 := NB104_141.out
            have hnb100 := NB141_110.out
            have hnc100 := NB110_141.out
            obtain ⟨hcz101_0, hcz101_1, hcz101_2, hfz101_0, hfz101_1, hfz101_2⟩ := blk3 BK141.out
            have p146 : 0 ≤ (0 : Int) := (by omega)
            have q146 : 0 < (t136.length : Int) := of_decide_eq_true qq3
            obtain ⟨ad146, A146_0, c146_0, e146, hx146_0, hl146_0, hi146_0⟩ := at_L4 (Kd.N_reads' HO_142002.out).2.2 0 p146 q146
            obtain rfl : ad145 = ad146 := (by injection e146)
            obtain ⟨ce146, hce146, hMe146, hcc146⟩ := Kd.N_get HO_142002.out [] 0 p146 qqw
            obtain ⟨ua146_0, uc146_0, rfl, ul146_0, ge146_0⟩ := Kd.FK_slice_open hMe146
            have hv146_0 := hcc146 0 _ rfl
            rw [Nat.add_zero, show ((Kd.slice 39 k39)).sz = 1 from rfl, Nat.mul_one] at hv146_0
            replace hv146_0 := Option.some.inj (hv146_0.symm.trans hx146_0)
            injection hv146_0 with hva_ hvn_ hvc_
            rw [hva_] at ge146_0
            rw [hvc_] at ul146_0
            have HL146_0 := Aside0.mk (show Kd.V k39 39 _ w.heap.size _ _ (rd_L4 t136 0) from Kd.V_mk ul146_0 ge146_0)
            clear hva_ hvn_ hvc_ ge146_0 ul146_0
            clear hcc146 hce146
            have qi146 : (0 < t136.length) = True := eq_true (by omega)
            (try rw [show ((0 : Int)).toNat = 0 from rfl] at hx146_0)
            (try rw [Addr.add_zero'] at hx146_0)
            have HR146_0 := Aside0.mk hi146_0
            have HC146_0 := Aside0.mk hl146_0
            clear hi146_0 hl146_0
            replace p146 := eq_true p146
            replace q146 := eq_true q146
            have p147 : 0 ≤ (x24_2 : Int) := of_decide_eq_true qq3
            have q147 : x24_2 < ((rd_L4 t136 0).length : Int) := of_decide_eq_true qq3
            obtain ⟨ad147, e147, hx147_0, hx147_1, hx147_2, hx147_3, hx147_4, hx147_5⟩ := at_T39 (by repeat (first | (with_reducible exact HR146_0.out) | (with_reducible refine Kd.C_alloc ?_ _) | (with_reducible refine Kd.C_drewN ?_ _) | (with_reducible refine Kd.C_drew ?_) | exact HR146_0.out)) x24_2 p147 q147
            cases e147
            replace p147 := eq_true p147
            replace q147 := eq_true q147
            have p148 : 0 ≤ (0 : Int) := (by omega)
            have q148 : 0 < (t136.length : Int) := of_decide_eq_true qq3
            obtain ⟨ad148, A148_0, c148_0, e148, hx148_0, hl148_0, hi148_0⟩ := at_L4 (Kd.N_reads' HO_142002.out).2.2 0 p148 q148
            obtain rfl : ad145 = ad148 := (by injection e148)
            obtain ⟨ce148, hce148, hMe148, hcc148⟩ := Kd.N_get HO_142002.out [] 0 p148 qqv
            obtain ⟨ua148_0, uc148_0, rfl, ul148_0, ge148_0⟩ := Kd.FK_slice_open hMe148
            have hv148_0 := hcc148 0 _ rfl
            rw [Nat.add_zero, show ((Kd.slice 39 k39)).sz = 1 from rfl, Nat.mul_one] at hv148_0
            replace hv148_0 := Option.some.inj (hv148_0.symm.trans hx148_0)
            injection hv148_0 with hva_ hvn_ hvc_
            rw [hva_] at ge148_0
            rw [hvc_] at ul148_0
            have HL148_0 := Aside0.mk (show Kd.V k39 39 _ w.heap.size _ _ (rd_L4 t136 0) from Kd.V_mk ul148_0 ge148_0)
            clear hva_ hvn_ hvc_ ge148_0 ul148_0
            clear hcc148 hce148
            have qi148 : (0 < t136.length) = True := eq_true (by omega)
            (try rw [show ((0 : Int)).toNat = 0 from rfl] at hx148_0)
            (try rw [Addr.add_zero'] at hx148_0)
            have HR148_0 := Aside0.mk hi148_0
            have HC148_0 := Aside0.mk hl148_0
            clear hi148_0 hl148_0
            replace p148 := eq_true p148
            replace q148 := eq_true q148
            have ea_ := Option.some.inj (hx146_0.symm.trans hx148_0)
            injection ea_ with ea_ en_ ec_
            subst ea_
            subst ec_
            clear en_
            have p149 : 0 ≤ ((ji81) : Int) := of_decide_eq_true qq3
            have q149 : (ji81) < ((rd_L4 t136 0).length : Int) := of_decide_eq_true qq3
            obtain ⟨ad149, e149, hx149_0, hx149_1, hx149_2, hx149_3, hx149_4, hx149_5⟩ := at_T39 (by repeat (first | (with_reducible exact HR148_0.out) | (with_reducible refine Kd.C_alloc ?_ _) | (with_reducible refine Kd.C_drewN ?_ _) | (with_reducible refine Kd.C_drew ?_) | exact HR148_0.out)) (ji81) p149 q149
            cases e149
            replace p149 := eq_true p149
            replace q149 := eq_true q149
            have p150 : 0 ≤ (0 : Int) := (by omega)
            have q150 : 0 < (t136.length : Int) := of_decide_eq_true qq3
            obtain ⟨ad150, A150_0, c150_0, e150, hx150_0, hl150_0, hi150_0⟩ := at_L4 (Kd.N_reads' HO_142002.out).2.2 0 p150 q150
            obtain rfl : ad145 = ad150 := (by injection e150)
            obtain ⟨ce150, hce150, hMe150, hcc150⟩ := Kd.N_get HO_142002.out [] 0 p150 qqu
            obtain ⟨ua150_0, uc150_0, rfl, ul150_0, ge150_0⟩ := Kd.FK_slice_open hMe150
            have hv150_0 := hcc150 0 _ rfl
            rw [Nat.add_zero, show ((Kd.slice 39 k39)).sz = 1 from rfl, Nat.mul_one] at hv150_0
            replace hv150_0 := Option.some.inj (hv150_0.symm.trans hx150_0)
            injection hv150_0 with hva_ hvn_ hvc_
            rw [hva_] at ge150_0
            rw [hvc_] at ul150_0
            have HL150_0 := Aside0.mk (show Kd.V k39 39 _ w.heap.size _ _ (rd_L4 t136 0) from Kd.V_mk ul150_0 ge150_0)
            clear hva_ hvn_ hvc_ ge150_0 ul150_0
            clear hcc150 hce150
            have qi150 : (0 < t136.length) = True := eq_true (by omega)
            (try rw [show ((0 : Int)).toNat = 0 from rfl] at hx150_0)
            (try rw [Addr.add_zero'] at hx150_0)
            have HR150_0 := Aside0.mk hi150_0
            have HC150_0 := Aside0.mk hl150_0
            clear hi150_0 hl150_0
            replace p150 := eq_true p150
            replace q150 := eq_true q150
            have ea_ := Option.some.inj (hx146_0.symm.trans hx150_0)
            injection ea_ with ea_ en_ ec_
            subst ea_
            subst ec_
            clear en_
            have p151 : 0 ≤ ((ji81) : Int) := of_decide_eq_true qq3
            have q151 : (ji81) < ((rd_L4 t136 0).length : Int) := of_decide_eq_true qq3
            obtain ⟨ad151, e151, hx151_0, hx151_1, hx151_2, hx151_3, hx151_4, hx151_5⟩ := at_T39 (by repeat (first | (with_reducible exact HR150_0.out) | (with_reducible refine Kd.C_alloc ?_ _) | (with_reducible refine Kd.C_drewN ?_ _) | (with_reducible refine Kd.C_drew ?_) | exact HR150_0.out)) (ji81) p151 q151
            cases e151
            replace p151 := eq_true p151
            replace q151 := eq_true q151
            have p152 : 0 ≤ (0 : Int) := (by omega)
            have q152 : 0 < (t136.length : Int) := of_decide_eq_true qq3
            obtain ⟨ad152, A152_0, c152_0, e152, hx152_0, hl152_0, hi152_0⟩ := at_L4 (Kd.N_reads' HO_142002.out).2.2 0 p152 q152
            obtain rfl : ad145 = ad152 := (by injection e152)
            obtain ⟨ce152, hce152, hMe152, hcc152⟩ := Kd.N_get HO_142002.out [] 0 p152 qqt
            obtain ⟨ua152_0, uc152_0, rfl, ul152_0, ge152_0⟩ := Kd.FK_slice_open hMe152
            have hv152_0 := hcc152 0 _ rfl
            rw [Nat.add_zero, show ((Kd.slice 39 k39)).sz = 1 from rfl, Nat.mul_one] at hv152_0
            replace hv152_0 := Option.some.inj (hv152_0.symm.trans hx152_0)
            injection hv152_0 with hva_ hvn_ hvc_
            rw [hva_] at ge152_0
            rw [hvc_] at ul152_0
            have HL152_0 := Aside0.mk (show Kd.V k39 39 _ w.heap.size _ _ (rd_L4 t136 0) from Kd.V_mk ul152_0 ge152_0)
            clear hva_ hvn_ hvc_ ge152_0 ul152_0
            clear hcc152 hce152
            have qi152 : (0 < t136.length) = True := eq_true (by omega)
            (try rw [show ((0 : Int)).toNat = 0 from rfl] at hx152_0)
            (try rw [Addr.add_zero'] at hx152_0)
            have HR152_0 := Aside0.mk hi152_0
            have HC152_0 := Aside0.mk hl152_0
            clear hi152_0 hl152_0
            replace p152 := eq_true p152
            replace q152 := eq_true q152
            have ea_ := Option.some.inj (hx146_0.symm.trans hx152_0)
            injection ea_ with ea_ en_ ec_
            subst ea_
            subst ec_
            clear en_
            have p153 : 0 ≤ (x24_2 : Int) := of_decide_eq_true qq3
            have q153 : x24_2 < ((rd_L4 t136 0).length : Int) := of_decide_eq_true qq3
            obtain ⟨ad153, e153, hx153_0, hx153_1, hx153_2, hx153_3, hx153_4, hx153_5⟩ := at_T39 (by repeat (first | (with_reducible exact HR152_0.out) | (with_reducible refine Kd.C_alloc ?_ _) | (with_reducible refine Kd.C_drewN ?_ _) | (with_reducible refine Kd.C_drew ?_) | exact HR152_0.out)) x24_2 p153 q153
            cases e153
            replace p153 := eq_true p153
            replace q153 := eq_true q153
            go_wp2
            go_ret
            exact ⟨by first | rfl | (simp [errW_none, errW_some] <;> rfl) | (simp only [← hji81]; first | rfl | (simp [errW_none, errW_some] <;> rfl)) | (simp [*, errW_none, errW_some] <;> rfl), qS4 GE101 GE104 GE110 GE141 HB.out⟩
          rw [if_pos c93] at H
          have c93b0 : ((wrap64 (((rd_T39 (rd_L4 t136 0) x24_2).f3) - x23_2)) == 2) = true := beq_iff_eq.mpr c93
          have c93b1 : ((wrap64 (((rd_T39 (rd_L4 t136 0) x24_2).f3) - x23_2)) != 2) = false := bne_eq_false_iff_eq.mpr c93
          clear c93
          have H' := Aside0.mk H
          clear H
          have hnb94 := NB141_101.out
          have hnc94 := NB101_141.out
          have hnb95 := NB141_104.out
          have hnc95 := NB104_141.out
          have hnb96 := NB141_110.out
          have hnc96 := NB110_141.out
          obtain ⟨hcz97_0, hcz97_1, hcz97_2, hfz97_0, hfz97_1, hfz97_2⟩ := blk3 BK141.out
          have p146 : 0 ≤ (0 : Int) := (by omega)
          have q146 : 0 < (t136.length : Int) := of_decide_eq_true qq3
          obtain ⟨ad146, A146_0, c146_0, e146, hx146_0, hl146_0, hi146_0⟩ := at_L4 (Kd.N_reads' HO_142002.out).2.2 0 p146 q146
          obtain rfl : ad145 = ad146 := (by injection e146)
          obtain ⟨ce146, hce146, hMe146, hcc146⟩ := Kd.N_get HO_142002.out [] 0 p146 qqw
          obtain ⟨ua146_0, uc146_0, rfl, ul146_0, ge146_0⟩ := Kd.FK_slice_open hMe146
          have hv146_0 := hcc146 0 _ rfl
          rw [Nat.add_zero, show ((Kd.slice 39 k39)).sz = 1 from rfl, Nat.mul_one] at hv146_0
          replace hv146_0 := Option.some.inj (hv146_0.symm.trans hx146_0)
          injection hv146_0 with hva_ hvn_ hvc_
          rw [hva_] at ge146_0
          rw [hvc_] at ul146_0
          have HL146_0 := Aside0.mk (show Kd.V k39 39 _ w.heap.size _ _ (rd_L4 t136 0) from Kd.V_mk ul146_0 ge146_0)
          clear hva_ hvn_ hvc_ ge146_0 ul146_0
          clear hcc146 hce146
          have qi146 : (0 < t136.length) = True := eq_true (by omega)
          (try rw [show ((0 : Int)).toNat = 0 from rfl] at hx146_0)
          (try rw [Addr.add_zero'] at hx146_0)
          have HR146_0 := Aside0.mk hi146_0
          have HC146_0 := Aside0.mk hl146_0
          clear hi146_0 hl146_0
          replace p146 := eq_true p146
          replace q146 := eq_true q146
          have p147 : 0 ≤ (x24_2 : Int) := of_decide_eq_true qq3
          have q147 : x24_2 < ((rd_L4 t136 0).length : Int) := of_decide_eq_true qq3
          obtain ⟨ad147, e147, hx147_0, hx147_1, hx147_2, hx147_3, hx147_4, hx147_5⟩ := at_T39 (by repeat (first | (with_reducible exact HR146_0.out) | (with_reducible refine Kd.C_alloc ?_ _) | (with_reducible refine Kd.C_drewN ?_ _) | (with_reducible refine Kd.C_drew ?_) | exact HR146_0.out)) x24_2 p147 q147
          cases e147
          replace p147 := eq_true p147
          replace q147 := eq_true q147
          have p148 : 0 ≤ (0 : Int) := (by omega)
          have q148 : 0 < (t136.length : Int) := of_decide_eq_true qq3
          obtain ⟨ad148, A148_0, c148_0, e148, hx148_0, hl148_0, hi148_0⟩ := at_L4 (Kd.N_reads' HO_142002.out).2.2 0 p148 q148
          obtain rfl : ad145 = ad148 := (by injection e148)
          obtain ⟨ce148, hce148, hMe148, hcc148⟩ := Kd.N_get HO_142002.out [] 0 p148 qqv
          obtain ⟨ua148_0, uc148_0, rfl, ul148_0, ge148_0⟩ := Kd.FK_slice_open hMe148
          have hv148_0 := hcc148 0 _ rfl
          rw [Nat.add_zero, show ((Kd.slice 39 k39)).sz = 1 from rfl, Nat.mul_one] at hv148_0
          replace hv148_0 := Option.some.inj (hv148_0.symm.trans hx148_0)
          injection hv148_0 with hva_ hvn_ hvc_
          rw [hva_] at ge148_0
          rw [hvc_] at ul148_0
          have HL148_0 := Aside0.mk (show Kd.V k39 39 _ w.heap.size _ _ (rd_L4 t136 0) from Kd.V_mk ul148_0 ge148_0)
          clear hva_ hvn_ hvc_ ge148_0 ul148_0
          clear hcc148 hce148
          have qi148 : (0 < t136.length) = True := eq_true (by omega)
          (try rw [show ((0 : Int)).toNat = 0 from rfl] at hx148_0)
          (try rw [Addr.add_zero'] at hx148_0)
          have HR148_0 := Aside0.mk hi148_0
          have HC148_0 := Aside0.mk hl148_0
          clear hi148_0 hl148_0
          replace p148 := eq_true p148
          replace q148 := eq_true q148
          have ea_ := Option.some.inj (hx146_0.symm.trans hx148_0)
          injection ea_ with ea_ en_ ec_
          subst ea_
          subst ec_
          clear en_
          have p149 : 0 ≤ ((ji81) : Int) := of_decide_eq_true qq3
          have q149 : (ji81) < ((rd_L4 t136 0).length : Int) := of_decide_eq_true qq3
          obtain ⟨ad149, e149, hx149_0, hx149_1, hx149_2, hx149_3, hx149_4, hx149_5⟩ := at_T39 (by repeat (first | (with_reducible exact HR148_0.out) | (with_reducible refine Kd.C_alloc ?_ _) | (with_reducible refine Kd.C_drewN ?_ _) | (with_reducible refine Kd.C_drew ?_) | exact HR148_0.out)) (ji81) p149 q149
          cases e149
          replace p149 := eq_true p149
          replace q149 := eq_true q149
          have p150 : 0 ≤ (0 : Int) := (by omega)
          have q150 : 0 < (t136.length : Int) := of_decide_eq_true qq3
          obtain ⟨ad150, A150_0, c150_0, e150, hx150_0, hl150_0, hi150_0⟩ := at_L4 (Kd.N_reads' HO_142002.out).2.2 0 p150 q150
          obtain rfl : ad145 = ad150 := (by injection e150)
          obtain ⟨ce150, hce150, hMe150, hcc150⟩ := Kd.N_get HO_142002.out [] 0 p150 qqu
          obtain ⟨ua150_0, uc150_0, rfl, ul150_0, ge150_0⟩ := Kd.FK_slice_open hMe150
          have hv150_0 := hcc150 0 _ rfl
          rw [Nat.add_zero, show ((Kd.slice 39 k39)).sz = 1 from rfl, Nat.mul_one] at hv150_0
          replace hv150_0 := Option.some.inj (hv150_0.symm.trans hx150_0)
          injection hv150_0 with hva_ hvn_ hvc_
          rw [hva_] at ge150_0
          rw [hvc_] at ul150_0
          have HL150_0 := Aside0.mk (show Kd.V k39 39 _ w.heap.size _ _ (rd_L4 t136 0) from Kd.V_mk ul150_0 ge150_0)
          clear hva_ hvn_ hvc_ ge150_0 ul150_0
          clear hcc150 hce150
          have qi150 : (0 < t136.length) = True := eq_true (by omega)
          (try rw [show ((0 : Int)).toNat = 0 from rfl] at hx150_0)
          (try rw [Addr.add_zero'] at hx150_0)
          have HR150_0 := Aside0.mk hi150_0
          have HC150_0 := Aside0.mk hl150_0
          clear hi150_0 hl150_0
          replace p150 := eq_true p150
          replace q150 := eq_true q150
          have ea_ := Option.some.inj (hx146_0.symm.trans hx150_0)
          injection ea_ with ea_ en_ ec_
          subst ea_
          subst ec_
          clear en_
          have p151 : 0 ≤ ((ji81) : Int) := of_decide_eq_true qq3
          have q151 : (ji81) < ((rd_L4 t136 0).length : Int) := of_decide_eq_true qq3
          obtain ⟨ad151, e151, hx151_0, hx151_1, hx151_2, hx151_3, hx151_4, hx151_5⟩ := at_T39 (by repeat (first | (with_reducible exact HR150_0.out) | (with_reducible refine Kd.C_alloc ?_ _) | (with_reducible refine Kd.C_drewN ?_ _) | (with_reducible refine Kd.C_drew ?_) | exact HR150_0.out)) (ji81) p151 q151
          cases e151
          replace p151 := eq_true p151
          replace q151 := eq_true q151
          have p152 : 0 ≤ (0 : Int) := (by omega)
          have q152 : 0 < (t136.length : Int) := of_decide_eq_true qq3
          obtain ⟨ad152, A152_0, c152_0, e152, hx152_0, hl152_0, hi152_0⟩ := at_L4 (Kd.N_reads' HO_142002.out).2.2 0 p152 q152
          obtain rfl : ad145 = ad152 := (by injection e152)
          obtain ⟨ce152, hce152, hMe152, hcc152⟩ := Kd.N_get HO_142002.out [] 0 p152 qqt
          obtain ⟨ua152_0, uc152_0, rfl, ul152_0, ge152_0⟩ := Kd.FK_slice_open hMe152
          have hv152_0 := hcc152 0 _ rfl
          rw [Nat.add_zero, show ((Kd.slice 39 k39)).sz = 1 from rfl, Nat.mul_one] at hv152_0
          replace hv152_0 := Option.some.inj (hv152_0.symm.trans hx152_0)
          injection hv152_0 with hva_ hvn_ hvc_
          rw [hva_] at ge152_0
          rw [hvc_] at ul152_0
          have HL152_0 := Aside0.mk (show Kd.V k39 39 _ w.heap.size _ _ (rd_L4 t136 0) from Kd.V_mk ul152_0 ge152_0)
          clear hva_ hvn_ hvc_ ge152_0 ul152_0
          clear hcc152 hce152
          have qi152 : (0 < t136.length) = True := eq_true (by omega)
          (try rw [show ((0 : Int)).toNat = 0 from rfl] at hx152_0)
          (try rw [Addr.add_zero'] at hx152_0)
          have HR152_0 := Aside0.mk hi152_0
          have HC152_0 := Aside0.mk hl152_0
          clear hi152_0 hl152_0
          replace p152 := eq_true p152
          replace q152 := eq_true q152
          have ea_ := Option.some.inj (hx146_0.symm.trans hx152_0)
          injection ea_ with ea_ en_ ec_
          subst ea_
          subst ec_
          clear en_
          have p153 : 0 ≤ (x24_2 : Int) := of_decide_eq_true qq3
          have q153 : x24_2 < ((rd_L4 t136 0).length : Int) := of_decide_eq_true qq3
          obtain ⟨ad153, e153, hx153_0, hx153_1, hx153_2, hx153_3, hx153_4, hx153_5⟩ := at_T39 (by repeat (first | (with_reducible exact HR152_0.out) | (with_reducible refine Kd.C_alloc ?_ _) | (with_reducible refine Kd.C_drewN ?_ _) | (with_reducible refine Kd.C_drew ?_) | exact HR152_0.out)) x24_2 p153 q153
          cases e153
          replace p153 := eq_true p153
          replace q153 := eq_true q153
          go_wp2
          go_roundg k2
          case measure => have := HK1.out; have := HK2.out; omega
          case rel => exact ⟨((rd_T39 (rd_L4 t136 0) x24_2).f3), (wrap64 (x24_2 + 2)), qq6, qq6, H', ⟨qqL⟩, ⟨qN HO_111002.out⟩, ⟨qN HO_142002.out⟩, ⟨bq BK101.out⟩, ⟨bq BK104.out⟩, ⟨bq BK110.out⟩, ⟨bq BK141.out⟩, ⟨by repeat (first | (with_reducible exact HR142_0.out) | (with_reducible refine Kd.C_alloc ?_ _) | (with_reducible refine Kd.C_drewN ?_ _) | (with_reducible refine Kd.C_drew ?_) | exact HR142_0.out)⟩, ⟨by repeat (first | (with_reducible exact HR145_0.out) | (with_reducible refine Kd.C_alloc ?_ _) | (with_reducible refine Kd.C_drewN ?_ _) | (with_reducible refine Kd.C_drew ?_) | exact HR145_0.out)⟩, ⟨qS4 GE101 GE104 GE110 GE141 HB.out⟩⟩
end Go.Proofs.YtdmnknhlibaaoaaDoor.M
