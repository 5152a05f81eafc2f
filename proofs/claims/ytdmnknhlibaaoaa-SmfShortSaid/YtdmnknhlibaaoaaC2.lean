/- Functions and contracts printed by a program of this session (wip/tools), and texts by hand: Print, Parse, and the plain answers (part 2). -/
import Derived.Test.YtdmnknhlibaaoaaC1
namespace Go.Proofs.Ytdmnknhlibaaoaa.M
open Go.RowKit Go.Proofs.YtdmnknhlibaaoaaW.PrintWords Go.Proofs.YtdmnknhlibaaoaaW.PrintLast Go.Proofs.YtdmnknhlibaaoaaW.PrintMore
attribute [local go_sem] max2_int min2_int max_two min_two max_three min_three max_four min_four
set_option linter.unusedVariables false
set_option linter.unusedSimpArgs false
mutual
def wire_Right.j0 : Nat → Bool → Int → Int → Int → Int → Int → ByteArray → Option (Bool)
  | 0, _, _, _, _, _, _, _ => none
  | k + 1, x14, x102000, x102001, x102002, x102003, x102004, x102005 => if x14 = true then (some false) else (if x102005.toList = ([] : List UInt8) then ((wire_within.f x102002 0 15).bind fun t103 => (if t103 = true then ((wire_within.f x102003 0 127).bind fun t104 => (wire_Right.j1 k t104 x102000 x102001 x102002 x102003 x102004 x102005)) else (wire_Right.j1 k false x102000 x102001 x102002 x102003 x102004 x102005))) else (wire_Right.j1 k false x102000 x102001 x102002 x102003 x102004 x102005))
def wire_Right.j1 : Nat → Bool → Int → Int → Int → Int → Int → ByteArray → Option (Bool)
  | 0, _, _, _, _, _, _, _ => none
  | k + 1, x3, x102000, x102001, x102002, x102003, x102004, x102005 => if x102002 = 0 then (wire_Right.j2 k x3 (x102004 == 0) x102000 x102001 x102002 x102003 x102004 x102005) else (wire_Right.j2 k x3 false x102000 x102001 x102002 x102003 x102004 x102005)
def wire_Right.j2 : Nat → Bool → Bool → Int → Int → Int → Int → Int → ByteArray → Option (Bool)
  | 0, _, _, _, _, _, _, _, _ => none
  | k + 1, x3, x4, x102000, x102001, x102002, x102003, x102004, x102005 => if x102001 = 8 then (wire_Right.j3 k x3 x4 x102001 (x102001 == 8) x102000 x102001 x102002 x102003 x102004 x102005) else (if x102001 = 9 then (wire_Right.j3 k x3 x4 x102001 (x102001 == 9) x102000 x102001 x102002 x102003 x102004 x102005) else (if x102001 = 10 then (wire_Right.j3 k x3 x4 x102001 (x102001 == 10) x102000 x102001 x102002 x102003 x102004 x102005) else (if x102001 = 11 then (wire_Right.j3 k x3 x4 x102001 (x102001 == 11) x102000 x102001 x102002 x102003 x102004 x102005) else (wire_Right.j3 k x3 x4 x102001 (x102001 == 14) x102000 x102001 x102002 x102003 x102004 x102005))))
def wire_Right.j3 : Nat → Bool → Bool → Int → Bool → Int → Int → Int → Int → Int → ByteArray → Option (Bool)
  | 0, _, _, _, _, _, _, _, _, _, _ => none
  | k + 1, x3, x4, x37, x38, x102000, x102001, x102002, x102003, x102004, x102005 => if x38 = true then (if x3 = true then ((wire_within.f x102004 0 127).bind fun t105 => (some t105)) else (some false)) else (if x37 = 12 then (wire_Right.j4 k x3 x4 x37 (x37 == 12) x102000 x102001 x102002 x102003 x102004 x102005) else (wire_Right.j4 k x3 x4 x37 (x37 == 13) x102000 x102001 x102002 x102003 x102004 x102005))
def wire_Right.j4 : Nat → Bool → Bool → Int → Bool → Int → Int → Int → Int → Int → ByteArray → Option (Bool)
  | 0, _, _, _, _, _, _, _, _, _, _ => none
  | k + 1, x3, x4, x37, x50, x102000, x102001, x102002, x102003, x102004, x102005 => if x50 = true then (if x3 = true then (some (x102004 == 0)) else (some false)) else (if x37 = 15 then (if x4 = true then (if x102003 = 240 then (some true) else (some (x102003 == 247))) else (some false)) else (if x37 = 16 then (if x4 = true then ((wire_within.f x102003 0 127).bind fun t106 => (some t106)) else (some false)) else (some false)))
end
def wire_Right.f (k : Nat) (a0_0 : Int) (a0_1 : Int) (a0_2 : Int) (a0_3 : Int) (a0_4 : Int) (a0_5 : ByteArray) : Option (Bool) := (wire_counts.f a0_0).bind fun t102 => (if t102 = true then (wire_Right.j0 k (decide ((a0_5.size : Int) > 100000)) a0_0 a0_1 a0_2 a0_3 a0_4 a0_5) else (wire_Right.j0 k true a0_0 a0_1 a0_2 a0_3 a0_4 a0_5))
theorem wire_Right.mono_l : ∀ k, (∀ y0 y1 y2 y3 y4 y5 y6, LeO (wire_Right.j0 k y0 y1 y2 y3 y4 y5 y6) (wire_Right.j0 (k + 1) y0 y1 y2 y3 y4 y5 y6)) ∧ (∀ y0 y1 y2 y3 y4 y5 y6, LeO (wire_Right.j1 k y0 y1 y2 y3 y4 y5 y6) (wire_Right.j1 (k + 1) y0 y1 y2 y3 y4 y5 y6)) ∧ (∀ y0 y1 y2 y3 y4 y5 y6 y7, LeO (wire_Right.j2 k y0 y1 y2 y3 y4 y5 y6 y7) (wire_Right.j2 (k + 1) y0 y1 y2 y3 y4 y5 y6 y7)) ∧ (∀ y0 y1 y2 y3 y4 y5 y6 y7 y8 y9, LeO (wire_Right.j3 k y0 y1 y2 y3 y4 y5 y6 y7 y8 y9) (wire_Right.j3 (k + 1) y0 y1 y2 y3 y4 y5 y6 y7 y8 y9)) ∧ (∀ y0 y1 y2 y3 y4 y5 y6 y7 y8 y9, LeO (wire_Right.j4 k y0 y1 y2 y3 y4 y5 y6 y7 y8 y9) (wire_Right.j4 (k + 1) y0 y1 y2 y3 y4 y5 y6 y7 y8 y9))
  | 0 => ⟨fun _ _ _ _ _ _ _ r h => by simp [wire_Right.j0] at h, fun _ _ _ _ _ _ _ r h => by simp [wire_Right.j1] at h, fun _ _ _ _ _ _ _ _ r h => by simp [wire_Right.j2] at h, fun _ _ _ _ _ _ _ _ _ _ r h => by simp [wire_Right.j3] at h, fun _ _ _ _ _ _ _ _ _ _ r h => by simp [wire_Right.j4] at h⟩
  | k + 1 => by
    obtain ⟨ih0, ih1, ih2, ih3, ih4⟩ := wire_Right.mono_l k
    refine ⟨?_, ?_, ?_, ?_, ?_⟩
    · intro y0 y1 y2 y3 y4 y5 y6
      unfold wire_Right.j0
      repeat' first
      | (with_reducible exact ih0 _ _ _ _ _ _ _)
      | (with_reducible exact ih1 _ _ _ _ _ _ _)
      | (with_reducible exact ih2 _ _ _ _ _ _ _ _)
      | (with_reducible exact ih3 _ _ _ _ _ _ _ _ _ _)
      | (with_reducible exact ih4 _ _ _ _ _ _ _ _ _ _)
      | (with_reducible exact LeO.refl _)
      | (with_reducible exact LeO.none _)
      | (with_reducible refine LeO.ite ?_ ?_)
      | (with_reducible refine LeO.bind ?_ (fun _ => ?_))
      | exact ih0 _ _ _ _ _ _ _
      | exact ih1 _ _ _ _ _ _ _
      | exact ih2 _ _ _ _ _ _ _ _
      | exact ih3 _ _ _ _ _ _ _ _ _ _
      | exact ih4 _ _ _ _ _ _ _ _ _ _
      | exact LeO.none _
      | refine LeO.ite ?_ ?_
      | refine LeO.bind ?_ (fun _ => ?_)
    · intro y0 y1 y2 y3 y4 y5 y6
      unfold wire_Right.j1
      repeat' first
      | (with_reducible exact ih0 _ _ _ _ _ _ _)
      | (with_reducible exact ih1 _ _ _ _ _ _ _)
      | (with_reducible exact ih2 _ _ _ _ _ _ _ _)
      | (with_reducible exact ih3 _ _ _ _ _ _ _ _ _ _)
      | (with_reducible exact ih4 _ _ _ _ _ _ _ _ _ _)
      | (with_reducible exact LeO.refl _)
      | (with_reducible exact LeO.none _)
      | (with_reducible refine LeO.ite ?_ ?_)
      | (with_reducible refine LeO.bind ?_ (fun _ => ?_))
      | exact ih0 _ _ _ _ _ _ _
      | exact ih1 _ _ _ _ _ _ _
      | exact ih2 _ _ _ _ _ _ _ _
      | exact ih3 _ _ _ _ _ _ _ _ _ _
      | exact ih4 _ _ _ _ _ _ _ _ _ _
      | exact LeO.none _
      | refine LeO.ite ?_ ?_
      | refine LeO.bind ?_ (fun _ => ?_)
    · intro y0 y1 y2 y3 y4 y5 y6 y7
      unfold wire_Right.j2
      repeat' first
      | (with_reducible exact ih0 _ _ _ _ _ _ _)
      | (with_reducible exact ih1 _ _ _ _ _ _ _)
      | (with_reducible exact ih2 _ _ _ _ _ _ _ _)
      | (with_reducible exact ih3 _ _ _ _ _ _ _ _ _ _)
      | (with_reducible exact ih4 _ _ _ _ _ _ _ _ _ _)
      | (with_reducible exact LeO.refl _)
      | (with_reducible exact LeO.none _)
      | (with_reducible refine LeO.ite ?_ ?_)
      | (with_reducible refine LeO.bind ?_ (fun _ => ?_))
      | exact ih0 _ _ _ _ _ _ _
      | exact ih1 _ _ _ _ _ _ _
      | exact ih2 _ _ _ _ _ _ _ _
      | exact ih3 _ _ _ _ _ _ _ _ _ _
      | exact ih4 _ _ _ _ _ _ _ _ _ _
      | exact LeO.none _
      | refine LeO.ite ?_ ?_
      | refine LeO.bind ?_ (fun _ => ?_)
    · intro y0 y1 y2 y3 y4 y5 y6 y7 y8 y9
      unfold wire_Right.j3
      repeat' first
      | (with_reducible exact ih0 _ _ _ _ _ _ _)
      | (with_reducible exact ih1 _ _ _ _ _ _ _)
      | (with_reducible exact ih2 _ _ _ _ _ _ _ _)
      | (with_reducible exact ih3 _ _ _ _ _ _ _ _ _ _)
      | (with_reducible exact ih4 _ _ _ _ _ _ _ _ _ _)
      | (with_reducible exact LeO.refl _)
      | (with_reducible exact LeO.none _)
      | (with_reducible refine LeO.ite ?_ ?_)
      | (with_reducible refine LeO.bind ?_ (fun _ => ?_))
      | exact ih0 _ _ _ _ _ _ _
      | exact ih1 _ _ _ _ _ _ _
      | exact ih2 _ _ _ _ _ _ _ _
      | exact ih3 _ _ _ _ _ _ _ _ _ _
      | exact ih4 _ _ _ _ _ _ _ _ _ _
      | exact LeO.none _
      | refine LeO.ite ?_ ?_
      | refine LeO.bind ?_ (fun _ => ?_)
    · intro y0 y1 y2 y3 y4 y5 y6 y7 y8 y9
      unfold wire_Right.j4
      repeat' first
      | (with_reducible exact ih0 _ _ _ _ _ _ _)
      | (with_reducible exact ih1 _ _ _ _ _ _ _)
      | (with_reducible exact ih2 _ _ _ _ _ _ _ _)
      | (with_reducible exact ih3 _ _ _ _ _ _ _ _ _ _)
      | (with_reducible exact ih4 _ _ _ _ _ _ _ _ _ _)
      | (with_reducible exact LeO.refl _)
      | (with_reducible exact LeO.none _)
      | (with_reducible refine LeO.ite ?_ ?_)
      | (with_reducible refine LeO.bind ?_ (fun _ => ?_))
      | exact ih0 _ _ _ _ _ _ _
      | exact ih1 _ _ _ _ _ _ _
      | exact ih2 _ _ _ _ _ _ _ _
      | exact ih3 _ _ _ _ _ _ _ _ _ _
      | exact ih4 _ _ _ _ _ _ _ _ _ _
      | exact LeO.none _
      | refine LeO.ite ?_ ?_
      | refine LeO.bind ?_ (fun _ => ?_)
theorem wire_Right.mono : ∀ a0 a1 a2 a3 a4 a5 k, LeO (wire_Right.f k a0 a1 a2 a3 a4 a5) (wire_Right.f (k + 1) a0 a1 a2 a3 a4 a5) := by
  intro a0 a1 a2 a3 a4 a5 k
  obtain ⟨ih0, ih1, ih2, ih3, ih4⟩ := wire_Right.mono_l k
  unfold wire_Right.f
  repeat' first
      | (with_reducible exact ih0 _ _ _ _ _ _ _)
      | (with_reducible exact ih1 _ _ _ _ _ _ _)
      | (with_reducible exact ih2 _ _ _ _ _ _ _ _)
      | (with_reducible exact ih3 _ _ _ _ _ _ _ _ _ _)
      | (with_reducible exact ih4 _ _ _ _ _ _ _ _ _ _)
      | (with_reducible exact LeO.refl _)
      | (with_reducible exact LeO.none _)
      | (with_reducible refine LeO.ite ?_ ?_)
      | (with_reducible refine LeO.bind ?_ (fun _ => ?_))
      | exact ih0 _ _ _ _ _ _ _
      | exact ih1 _ _ _ _ _ _ _
      | exact ih2 _ _ _ _ _ _ _ _
      | exact ih3 _ _ _ _ _ _ _ _ _ _
      | exact ih4 _ _ _ _ _ _ _ _ _ _
      | exact LeO.none _
      | refine LeO.ite ?_ ?_
      | refine LeO.bind ?_ (fun _ => ?_)
set_option maxHeartbeats 8000000 in
set_option maxRecDepth 100000 in
theorem wire_Right.calls (k : Nat) (a0_0 : Int) (a0_1 : Int) (a0_2 : Int) (a0_3 : Int) (a0_4 : Int) (a0_5 : ByteArray) (r : Bool) (w : World) (h : wire_Right.f k a0_0 a0_1 a0_2 a0_3 a0_4 a0_5 = some r) :
    Calls Try.prog 35 #[.agg #[.int .i64 a0_0, .int .i64 a0_1, .int .i64 a0_2, .int .i64 a0_3, .int .i64 a0_4, .string a0_5]] w fun e w' => e = .returned (.bool r) ∧ Below w.heap.size w w' := by
  have hu28 := Try.underlying28
  have HB := Aside0.mk (Below.refl w.heap.size w)
  have H : ((wire_counts.f a0_0).bind fun t102 => (if t102 = true then (wire_Right.j0 k (decide ((a0_5.size : Int) > 100000)) a0_0 a0_1 a0_2 a0_3 a0_4 a0_5) else (wire_Right.j0 k true a0_0 a0_1 a0_2 a0_3 a0_4 a0_5))) = some r := h
  clear h
  have HC2 := Aside0.mk H
  clear H
  go_enter Try.func35, Try.ntmps35
  go_upto_region 1 with (first | ((with_reducible refine gate_dst (N := 1) rfl ?_); (try (refine gate_guard (by rfl) ?_; dsimp only)); refine box_event ?hg (N := 1) ?hd (cs := #[.int .i64 a0_0, .int .i64 a0_1, .int .i64 a0_2, .int .i64 a0_3, .int .i64 a0_4, .string a0_5]) (t := 28) ?hr ?_; (case hd => rfl); (case hg => rfl); (case hr => first | (go_simp; done) | (go_simp; rfl)); intro gb101 hg w3 hbox hb; have BK101 := Aside0.mk (hbox); have GW101 := Aside0.mk ((by rw [hg]; exact (below_size (qB HB.out)) : w.heap.size ≤ gb101)); have GE101 := Aside0.mk ((by rw [hg]; exact (below_size (qB HB.out)) : w.heap.size ≤ gb101)); replace HB := Aside0.mk (below_step (qB HB.out) hb); clear hb hbox hg))
  (try simp only [Act.put, List.setIfInBounds_toArray, List.set_cons_zero, List.set_cons_succ])
  go_cut [14] (fun v14 wc => ∃ (kq : Nat) (x14_1 : Bool), v14 = .bool x14_1 ∧ Aside0 (wire_Right.j0 kq x14_1 a0_0 a0_1 a0_2 a0_3 a0_4 a0_5 = some r) ∧ Aside0 (kq ≤ k) ∧ Aside0 (wc.heap[gb101]? = some (.cells #[.int .i64 a0_0, .int .i64 a0_1, .int .i64 a0_2, .int .i64 a0_3, .int .i64 a0_4, .string a0_5] 28 (0, 0))) ∧ Aside0 (Below w.heap.size w wc))
  case first =>
    have H := HC2.out
    clear HC2
    replace H := Option.bind_eq_some_iff.mp H
    obtain ⟨t102, A40, H⟩ := H
    replace H : (if t102 = true then (wire_Right.j0 k (decide ((a0_5.size : Int) > 100000)) a0_0 a0_1 a0_2 a0_3 a0_4 a0_5) else (wire_Right.j0 k true a0_0 a0_1 a0_2 a0_3 a0_4 a0_5)) = some r := H
    have A4 := Aside0.mk A40
    clear A40
    by_cases c5 : t102 = true
    · subst c5
      have H1 : (wire_Right.j0 k (decide ((a0_5.size : Int) > 100000)) a0_0 a0_1 a0_2 a0_3 a0_4 a0_5) = some r := by rw [if_pos rfl] at H; exact H
      clear H
      have H := H1
      clear H1
      have H' := Aside0.mk H
      clear H
      obtain ⟨hcz6_0, hcz6_1, hcz6_2, hcz6_3, hcz6_4, hcz6_5, hfz6_0, hfz6_1, hfz6_2, hfz6_3, hfz6_4, hfz6_5⟩ := blk6 BK101.out
      go_wp2_with (first | ((with_reducible refine gate_callee (f := 57) rfl ?_); refine goesL_ (some 7) rfl rfl Try.func57 (by kernel_rfl) rfl #[.int .i64 a0_0] rfl (by (try simp only [List.map_toArray, List.map_cons, List.map_nil]); first | done | rfl | (simp only [List.length_drop, List.length_take]; rfl)) ?_; (with_reducible refine (wire_counts.calls a0_0 true _ A4.out).mono ?_); rintro e w' ⟨rfl, ⟨nd, rfl⟩⟩; refine ⟨_, rfl, ?_⟩))
      go_meet
      case rel => exact ⟨_, (decide ((a0_5.size : Int) > 100000)), (by first | rfl | (simp; done) | (simp [*]; done)), H', ⟨by first | omega | exact Nat.le_refl _⟩, ⟨bq BK101.out⟩, ⟨qS1 GE101 HB.out⟩⟩
    replace c5 := Bool.eq_false_iff.mpr c5
    subst c5
    have H1 : (wire_Right.j0 k true a0_0 a0_1 a0_2 a0_3 a0_4 a0_5) = some r := by rw [if_neg (show ¬ (false = true) by decide)] at H; exact H
    clear H
    have H := H1
    clear H1
    have H' := Aside0.mk H
    clear H
    obtain ⟨hcz7_0, hcz7_1, hcz7_2, hcz7_3, hcz7_4, hcz7_5, hfz7_0, hfz7_1, hfz7_2, hfz7_3, hfz7_4, hfz7_5⟩ := blk6 BK101.out
    go_wp2_with (first | ((with_reducible refine gate_callee (f := 57) rfl ?_); refine goesL_ (some 7) rfl rfl Try.func57 (by kernel_rfl) rfl #[.int .i64 a0_0] rfl (by (try simp only [List.map_toArray, List.map_cons, List.map_nil]); first | done | rfl | (simp only [List.length_drop, List.length_take]; rfl)) ?_; (with_reducible refine (wire_counts.calls a0_0 false _ A4.out).mono ?_); rintro e w' ⟨rfl, ⟨nd, rfl⟩⟩; refine ⟨_, rfl, ?_⟩))
    go_meet
    case rel => exact ⟨_, (true), (by first | rfl | (simp; done) | (simp [*]; done)), H', ⟨by first | omega | exact Nat.le_refl _⟩, ⟨bq BK101.out⟩, ⟨qS1 GE101 HB.out⟩⟩
  case rest =>
    clear HC2
    try clear p2
    try clear c3
    try clear c5
    try clear hcz6_0
    try clear hcz6_1
    try clear hcz6_2
    try clear hcz6_3
    try clear hcz6_4
    try clear hcz6_5
    try clear hcz7_0
    try clear hcz7_1
    try clear hcz7_2
    try clear hcz7_3
    try clear hcz7_4
    try clear hcz7_5
    try clear hfz6_0
    try clear hfz6_1
    try clear hfz6_2
    try clear hfz6_3
    try clear hfz6_4
    try clear hfz6_5
    try clear hfz7_0
    try clear hfz7_1
    try clear hfz7_2
    try clear hfz7_3
    try clear hfz7_4
    try clear hfz7_5
    obtain ⟨kq, x14_1, rfl, HA, HJ1, BK101, HB⟩ := hcut
    cases kq with
    | zero => exact absurd HA.out (by simp [wire_Right.j0])
    | succ kj1 =>
      have H := HA.out
      clear HA
      simp only [wire_Right.j0] at H
      by_cases c8 : x14_1 = true
      · subst c8
        have H1 : (some false) = some r := by rw [if_pos rfl] at H; exact H
        clear H
        have H := H1
        clear H1
        obtain rfl := Option.some.inj H
        go_wp2
        go_ret
        exact ⟨by first | rfl | (simp [errW_none, errW_some] <;> rfl) | (simp [*, errW_none, errW_some] <;> rfl), qS1 GE101 HB.out⟩
      replace c8 := Bool.eq_false_iff.mpr c8
      subst c8
      have H1 : (if a0_5.toList = ([] : List UInt8) then ((wire_within.f a0_2 0 15).bind fun t103 => (if t103 = true then ((wire_within.f a0_3 0 127).bind fun t104 => (wire_Right.j1 kj1 t104 a0_0 a0_1 a0_2 a0_3 a0_4 a0_5)) else (wire_Right.j1 kj1 false a0_0 a0_1 a0_2 a0_3 a0_4 a0_5))) else (wire_Right.j1 kj1 false a0_0 a0_1 a0_2 a0_3 a0_4 a0_5)) = some r := by rw [if_neg (show ¬ (false = true) by decide)] at H; exact H
      clear H
      have H := H1
      clear H1
      have HC9 := Aside0.mk H
      clear H
      go_upto_region 3 with (fail)
      go_cut [3] (fun v3 wc => ∃ (kq : Nat) (x3_8 : Bool), v3 = .bool x3_8 ∧ Aside0 (wire_Right.j1 kq x3_8 a0_0 a0_1 a0_2 a0_3 a0_4 a0_5 = some r) ∧ Aside0 (kq ≤ kj1) ∧ Aside0 (wc.heap[gb101]? = some (.cells #[.int .i64 a0_0, .int .i64 a0_1, .int .i64 a0_2, .int .i64 a0_3, .int .i64 a0_4, .string a0_5] 28 (0, 0))) ∧ Aside0 (Below w.heap.size w wc))
      case first =>
        have H := HC9.out
        clear HC9
        by_cases c10 : a0_5.toList = ([] : List UInt8)
        rotate_left
        · rw [if_neg c10] at H
          have c10b0 : (a0_5.toList == ([] : List UInt8)) = false := beq_eq_false_iff_ne.mpr c10
          have c10b1 : (a0_5.toList != ([] : List UInt8)) = true := bne_iff_ne.mpr c10
          (first | rw [c10b0] | (simp only [i64_w, i32_w]; rw [c10b0]) | skip)
          have H' := Aside0.mk H
          clear H
          obtain ⟨hcz16_0, hcz16_1, hcz16_2, hcz16_3, hcz16_4, hcz16_5, hfz16_0, hfz16_1, hfz16_2, hfz16_3, hfz16_4, hfz16_5⟩ := blk6 BK101.out
          go_wp2
          go_meet
          case rel => exact ⟨_, (false), (by first | rfl | (simp; done) | (simp [*]; done)), H', ⟨by have := HJ1.out; first | omega | exact Nat.le_refl _⟩, ⟨bq BK101.out⟩, ⟨qS1 GE101 HB.out⟩⟩
        rw [if_pos c10] at H
        have c10b0 : (a0_5.toList == ([] : List UInt8)) = true := beq_iff_eq.mpr c10
        have c10b1 : (a0_5.toList != ([] : List UInt8)) = false := bne_eq_false_iff_eq.mpr c10
        clear c10
        (first | rw [c10b0] | (simp only [i64_w, i32_w]; rw [c10b0]) | skip)
        replace H := Option.bind_eq_some_iff.mp H
        obtain ⟨t103, A110, H⟩ := H
        replace H : (if t103 = true then ((wire_within.f a0_3 0 127).bind fun t104 => (wire_Right.j1 kj1 t104 a0_0 a0_1 a0_2 a0_3 a0_4 a0_5)) else (wire_Right.j1 kj1 false a0_0 a0_1 a0_2 a0_3 a0_4 a0_5)) = some r := H
        have A11 := Aside0.mk A110
        clear A110
        by_cases c12 : t103 = true
        rotate_left
        · replace c12 := Bool.eq_false_iff.mpr c12
          subst c12
          have H1 : (wire_Right.j1 kj1 false a0_0 a0_1 a0_2 a0_3 a0_4 a0_5) = some r := by rw [if_neg (show ¬ (false = true) by decide)] at H; exact H
          clear H
          have H := H1
          clear H1
          have H' := Aside0.mk H
          clear H
          obtain ⟨hcz15_0, hcz15_1, hcz15_2, hcz15_3, hcz15_4, hcz15_5, hfz15_0, hfz15_1, hfz15_2, hfz15_3, hfz15_4, hfz15_5⟩ := blk6 BK101.out
          go_wp2_with (first | (go_at_call 58; (with_reducible refine (wire_within.calls a0_2 0 15 false _ A11.out).mono ?_); rintro e w' ⟨rfl, ⟨nd, rfl⟩⟩))
          go_meet
          case rel => exact ⟨_, (false), (by first | rfl | (simp; done) | (simp [*]; done)), H', ⟨by have := HJ1.out; first | omega | exact Nat.le_refl _⟩, ⟨bq BK101.out⟩, ⟨qS1 GE101 HB.out⟩⟩
        subst c12
        have H1 : ((wire_within.f a0_3 0 127).bind fun t104 => (wire_Right.j1 kj1 t104 a0_0 a0_1 a0_2 a0_3 a0_4 a0_5)) = some r := by rw [if_pos rfl] at H; exact H
        clear H
        have H := H1
        clear H1
        replace H := Option.bind_eq_some_iff.mp H
        obtain ⟨t104, A130, H⟩ := H
        replace H : (wire_Right.j1 kj1 t104 a0_0 a0_1 a0_2 a0_3 a0_4 a0_5) = some r := H
        have A13 := Aside0.mk A130
        clear A130
        have H' := Aside0.mk H
        clear H
        obtain ⟨hcz14_0, hcz14_1, hcz14_2, hcz14_3, hcz14_4, hcz14_5, hfz14_0, hfz14_1, hfz14_2, hfz14_3, hfz14_4, hfz14_5⟩ := blk6 BK101.out
        go_wp2_with (first | (go_at_call 58; (with_reducible refine (wire_within.calls a0_2 0 15 true _ A11.out).mono ?_); rintro e w' ⟨rfl, ⟨nd, rfl⟩⟩) | (go_at_call 58; (with_reducible refine (wire_within.calls a0_3 0 127 t104 _ A13.out).mono ?_); rintro e w' ⟨rfl, ⟨nd, rfl⟩⟩))
        go_meet
        case rel => exact ⟨_, (t104), (by first | rfl | (simp; done) | (simp [*]; done)), H', ⟨by have := HJ1.out; first | omega | exact Nat.le_refl _⟩, ⟨bq BK101.out⟩, ⟨qS1 GE101 HB.out⟩⟩
      case rest =>
        clear HC9
        try clear c1
        try clear p2
        try clear c3
        try clear c5
        try clear c8
        try clear c10
        try clear c10b0
        try clear c10b1
        try clear c12
        try clear hcz14_0
        try clear hcz14_1
        try clear hcz14_2
        try clear hcz14_3
        try clear hcz14_4
        try clear hcz14_5
        try clear hcz15_0
        try clear hcz15_1
        try clear hcz15_2
        try clear hcz15_3
        try clear hcz15_4
        try clear hcz15_5
        try clear hcz16_0
        try clear hcz16_1
        try clear hcz16_2
        try clear hcz16_3
        try clear hcz16_4
        try clear hcz16_5
        try clear hcz6_0
        try clear hcz6_1
        try clear hcz6_2
        try clear hcz6_3
        try clear hcz6_4
        try clear hcz6_5
        try clear hcz7_0
        try clear hcz7_1
        try clear hcz7_2
        try clear hcz7_3
        try clear hcz7_4
        try clear hcz7_5
        try clear hfz14_0
        try clear hfz14_1
        try clear hfz14_2
        try clear hfz14_3
        try clear hfz14_4
        try clear hfz14_5
        try clear hfz15_0
        try clear hfz15_1
        try clear hfz15_2
        try clear hfz15_3
        try clear hfz15_4
        try clear hfz15_5
        try clear hfz16_0
        try clear hfz16_1
        try clear hfz16_2
        try clear hfz16_3
        try clear hfz16_4
        try clear hfz16_5
        try clear hfz6_0
        try clear hfz6_1
        try clear hfz6_2
        try clear hfz6_3
        try clear hfz6_4
        try clear hfz6_5
        try clear hfz7_0
        try clear hfz7_1
        try clear hfz7_2
        try clear hfz7_3
        try clear hfz7_4
        try clear hfz7_5
        try clear p2
        obtain ⟨kq, x3_8, rfl, HA, HJ8, BK101, HB⟩ := hcut
        cases kq with
        | zero => exact absurd HA.out (by simp [wire_Right.j1])
        | succ kj8 =>
          have H := HA.out
          clear HA
          simp only [wire_Right.j1] at H
          have HC17 := Aside0.mk H
          clear H
          go_upto_region 4 with (fail)
          go_cut [4] (fun v4 wc => ∃ (kq : Nat) (x4_16 : Bool), v4 = .bool x4_16 ∧ Aside0 (wire_Right.j2 kq x3_8 x4_16 a0_0 a0_1 a0_2 a0_3 a0_4 a0_5 = some r) ∧ Aside0 (kq ≤ kj8) ∧ Aside0 (wc.heap[gb101]? = some (.cells #[.int .i64 a0_0, .int .i64 a0_1, .int .i64 a0_2, .int .i64 a0_3, .int .i64 a0_4, .string a0_5] 28 (0, 0))) ∧ Aside0 (Below w.heap.size w wc))
          case first =>
            have H := HC17.out
            clear HC17
            by_cases c18 : a0_2 = 0
            rotate_left
            · rw [if_neg c18] at H
              have c18b0 : (a0_2 == 0) = false := beq_eq_false_iff_ne.mpr c18
              have c18b1 : (a0_2 != 0) = true := bne_iff_ne.mpr c18
              (first | rw [c18b0] | (simp only [i64_w, i32_w]; rw [c18b0]) | skip)
              have H' := Aside0.mk H
              clear H
              obtain ⟨hcz20_0, hcz20_1, hcz20_2, hcz20_3, hcz20_4, hcz20_5, hfz20_0, hfz20_1, hfz20_2, hfz20_3, hfz20_4, hfz20_5⟩ := blk6 BK101.out
              go_wp2
              go_meet
              case rel => exact ⟨_, (false), (by first | rfl | (simp; done) | (simp [*]; done)), H', ⟨by have := HJ1.out; have := HJ8.out; first | omega | exact Nat.le_refl _⟩, ⟨bq BK101.out⟩, ⟨qS1 GE101 HB.out⟩⟩
            rw [if_pos c18] at H
            have c18b0 : (a0_2 == 0) = true := beq_iff_eq.mpr c18
            have c18b1 : (a0_2 != 0) = false := bne_eq_false_iff_eq.mpr c18
            clear c18
            (first | rw [c18b0] | (simp only [i64_w, i32_w]; rw [c18b0]) | skip)
            have H' := Aside0.mk H
            clear H
            obtain ⟨hcz19_0, hcz19_1, hcz19_2, hcz19_3, hcz19_4, hcz19_5, hfz19_0, hfz19_1, hfz19_2, hfz19_3, hfz19_4, hfz19_5⟩ := blk6 BK101.out
            go_wp2
            go_meet
            case rel => exact ⟨_, ((a0_4 == 0)), (by first | rfl | (simp; done) | (simp [*]; done)), H', ⟨by have := HJ1.out; have := HJ8.out; first | omega | exact Nat.le_refl _⟩, ⟨bq BK101.out⟩, ⟨qS1 GE101 HB.out⟩⟩
          case rest =>
            clear HC17
            try clear c1
            try clear p2
            try clear c3
            try clear c5
            try clear c8
            try clear c10
            try clear c10b0
            try clear c10b1
            try clear c12
            try clear c18
            try clear c18b0
            try clear c18b1
            try clear hcz14_0
            try clear hcz14_1
            try clear hcz14_2
            try clear hcz14_3
            try clear hcz14_4
            try clear hcz14_5
            try clear hcz15_0
            try clear hcz15_1
            try clear hcz15_2
            try clear hcz15_3
            try clear hcz15_4
            try clear hcz15_5
            try clear hcz16_0
            try clear hcz16_1
            try clear hcz16_2
            try clear hcz16_3
            try clear hcz16_4
            try clear hcz16_5
            try clear hcz19_0
            try clear hcz19_1
            try clear hcz19_2
            try clear hcz19_3
            try clear hcz19_4
            try clear hcz19_5
            try clear hcz20_0
            try clear hcz20_1
            try clear hcz20_2
            try clear hcz20_3
            try clear hcz20_4
            try clear hcz20_5
            try clear hcz6_0
            try clear hcz6_1
            try clear hcz6_2
            try clear hcz6_3
            try clear hcz6_4
            try clear hcz6_5
            try clear hcz7_0
            try clear hcz7_1
            try clear hcz7_2
            try clear hcz7_3
            try clear hcz7_4
            try clear hcz7_5
            try clear hfz14_0
            try clear hfz14_1
            try clear hfz14_2
            try clear hfz14_3
            try clear hfz14_4
            try clear hfz14_5
            try clear hfz15_0
            try clear hfz15_1
            try clear hfz15_2
            try clear hfz15_3
            try clear hfz15_4
            try clear hfz15_5
            try clear hfz16_0
            try clear hfz16_1
            try clear hfz16_2
            try clear hfz16_3
            try clear hfz16_4
            try clear hfz16_5
            try clear hfz19_0
            try clear hfz19_1
            try clear hfz19_2
            try clear hfz19_3
            try clear hfz19_4
            try clear hfz19_5
            try clear hfz20_0
            try clear hfz20_1
            try clear hfz20_2
            try clear hfz20_3
            try clear hfz20_4
            try clear hfz20_5
            try clear hfz6_0
            try clear hfz6_1
            try clear hfz6_2
            try clear hfz6_3
            try clear hfz6_4
            try clear hfz6_5
            try clear hfz7_0
            try clear hfz7_1
            try clear hfz7_2
            try clear hfz7_3
            try clear hfz7_4
            try clear hfz7_5
            try clear p2
            obtain ⟨kq, x4_16, rfl, HA, HJ16, BK101, HB⟩ := hcut
            cases kq with
            | zero => exact absurd HA.out (by simp [wire_Right.j2])
            | succ kj16 =>
              have H := HA.out
              clear HA
              simp only [wire_Right.j2] at H
              have HC21 := Aside0.mk H
              clear H
              obtain ⟨hcz22_0, hcz22_1, hcz22_2, hcz22_3, hcz22_4, hcz22_5, hfz22_0, hfz22_1, hfz22_2, hfz22_3, hfz22_4, hfz22_5⟩ := blk6 BK101.out
              go_upto_if 38 with (fail)
              go_cut [38] (fun v38 wc => ∃ (kq : Nat) (x38_20 : Bool), v38 = .bool x38_20 ∧ Aside0 (wire_Right.j3 kq x3_8 x4_16 a0_1 x38_20 a0_0 a0_1 a0_2 a0_3 a0_4 a0_5 = some r) ∧ Aside0 (kq ≤ kj16) ∧ Aside0 (wc.heap[gb101]? = some (.cells #[.int .i64 a0_0, .int .i64 a0_1, .int .i64 a0_2, .int .i64 a0_3, .int .i64 a0_4, .string a0_5] 28 (0, 0))) ∧ Aside0 (Below w.heap.size w wc))
              case first =>
                have H := HC21.out
                clear HC21
                by_cases c23 : a0_1 = 8
                · rw [if_pos c23] at H
                  have c23b0 : (a0_1 == 8) = true := beq_iff_eq.mpr c23
                  have c23b1 : (a0_1 != 8) = false := bne_eq_false_iff_eq.mpr c23
                  clear c23
                  (first | rw [c23b0] | (simp only [i64_w, i32_w]; rw [c23b0]) | skip)
                  have H' := Aside0.mk H
                  clear H
                  go_wp2
                  go_meet
                  case rel => exact ⟨_, ((a0_1 == 8)), (by first | rfl | (simp; done) | (simp [*]; done)), H', ⟨by have := HJ1.out; have := HJ8.out; have := HJ16.out; first | omega | exact Nat.le_refl _⟩, ⟨bq BK101.out⟩, ⟨qS1 GE101 HB.out⟩⟩
                rw [if_neg c23] at H
                have c23b0 : (a0_1 == 8) = false := beq_eq_false_iff_ne.mpr c23
                have c23b1 : (a0_1 != 8) = true := bne_iff_ne.mpr c23
                (first | rw [c23b0] | (simp only [i64_w, i32_w]; rw [c23b0]) | skip)
                by_cases c24 : a0_1 = 9
                · rw [if_pos c24] at H
                  have c24b0 : (a0_1 == 9) = true := beq_iff_eq.mpr c24
                  have c24b1 : (a0_1 != 9) = false := bne_eq_false_iff_eq.mpr c24
                  clear c24
                  have H' := Aside0.mk H
                  clear H
                  go_wp2
                  go_meet
                  case rel => exact ⟨_, ((a0_1 == 9)), (by first | rfl | (simp; done) | (simp [*]; done)), H', ⟨by have := HJ1.out; have := HJ8.out; have := HJ16.out; first | omega | exact Nat.le_refl _⟩, ⟨bq BK101.out⟩, ⟨qS1 GE101 HB.out⟩⟩
                rw [if_neg c24] at H
                have c24b0 : (a0_1 == 9) = false := beq_eq_false_iff_ne.mpr c24
                have c24b1 : (a0_1 != 9) = true := bne_iff_ne.mpr c24
                by_cases c25 : a0_1 = 10
                · rw [if_pos c25] at H
                  have c25b0 : (a0_1 == 10) = true := beq_iff_eq.mpr c25
                  have c25b1 : (a0_1 != 10) = false := bne_eq_false_iff_eq.mpr c25
                  clear c25
                  have H' := Aside0.mk H
                  clear H
                  go_wp2
                  go_meet
                  case rel => exact ⟨_, ((a0_1 == 10)), (by first | rfl | (simp; done) | (simp [*]; done)), H', ⟨by have := HJ1.out; have := HJ8.out; have := HJ16.out; first | omega | exact Nat.le_refl _⟩, ⟨bq BK101.out⟩, ⟨qS1 GE101 HB.out⟩⟩
                rw [if_neg c25] at H
                have c25b0 : (a0_1 == 10) = false := beq_eq_false_iff_ne.mpr c25
                have c25b1 : (a0_1 != 10) = true := bne_iff_ne.mpr c25
                by_cases c26 : a0_1 = 11
                rotate_left
                · rw [if_neg c26] at H
                  have c26b0 : (a0_1 == 11) = false := beq_eq_false_iff_ne.mpr c26
                  have c26b1 : (a0_1 != 11) = true := bne_iff_ne.mpr c26
                  have H' := Aside0.mk H
                  clear H
                  go_wp2
                  go_meet
                  case rel => exact ⟨_, ((a0_1 == 14)), (by first | rfl | (simp; done) | (simp [*]; done)), H', ⟨by have := HJ1.out; have := HJ8.out; have := HJ16.out; first | omega | exact Nat.le_refl _⟩, ⟨bq BK101.out⟩, ⟨qS1 GE101 HB.out⟩⟩
                rw [if_pos c26] at H
                have c26b0 : (a0_1 == 11) = true := beq_iff_eq.mpr c26
                have c26b1 : (a0_1 != 11) = false := bne_eq_false_iff_eq.mpr c26
                clear c26
                have H' := Aside0.mk H
                clear H
                go_wp2
                go_meet
                case rel => exact ⟨_, ((a0_1 == 11)), (by first | rfl | (simp; done) | (simp [*]; done)), H', ⟨by have := HJ1.out; have := HJ8.out; have := HJ16.out; first | omega | exact Nat.le_refl _⟩, ⟨bq BK101.out⟩, ⟨qS1 GE101 HB.out⟩⟩
              case rest =>
                clear HC21
                try clear c1
                try clear c2
                try clear p2
                try clear c3
                try clear c5
                try clear c8
                try clear c10
                try clear c10b0
                try clear c10b1
                try clear c12
                try clear c18
                try clear c18b0
                try clear c18b1
                try clear c23
                try clear c23b0
                try clear c23b1
                try clear c24
                try clear c24b0
                try clear c24b1
                try clear c25
                try clear c25b0
                try clear c25b1
                try clear c26
                try clear c26b0
                try clear c26b1
                try clear hcz14_0
                try clear hcz14_1
                try clear hcz14_2
                try clear hcz14_3
                try clear hcz14_4
                try clear hcz14_5
                try clear hcz15_0
                try clear hcz15_1
                try clear hcz15_2
                try clear hcz15_3
                try clear hcz15_4
                try clear hcz15_5
                try clear hcz16_0
                try clear hcz16_1
                try clear hcz16_2
                try clear hcz16_3
                try clear hcz16_4
                try clear hcz16_5
                try clear hcz19_0
                try clear hcz19_1
                try clear hcz19_2
                try clear hcz19_3
                try clear hcz19_4
                try clear hcz19_5
                try clear hcz20_0
                try clear hcz20_1
                try clear hcz20_2
                try clear hcz20_3
                try clear hcz20_4
                try clear hcz20_5
                try clear hcz22_0
                try clear hcz22_1
                try clear hcz22_2
                try clear hcz22_3
                try clear hcz22_4
                try clear hcz22_5
                try clear hcz6_0
                try clear hcz6_1
                try clear hcz6_2
                try clear hcz6_3
                try clear hcz6_4
                try clear hcz6_5
                try clear hcz7_0
                try clear hcz7_1
                try clear hcz7_2
                try clear hcz7_3
                try clear hcz7_4
                try clear hcz7_5
                try clear hfz14_0
                try clear hfz14_1
                try clear hfz14_2
                try clear hfz14_3
                try clear hfz14_4
                try clear hfz14_5
                try clear hfz15_0
                try clear hfz15_1
                try clear hfz15_2
                try clear hfz15_3
                try clear hfz15_4
                try clear hfz15_5
                try clear hfz16_0
                try clear hfz16_1
                try clear hfz16_2
                try clear hfz16_3
                try clear hfz16_4
                try clear hfz16_5
                try clear hfz19_0
                try clear hfz19_1
                try clear hfz19_2
                try clear hfz19_3
                try clear hfz19_4
                try clear hfz19_5
                try clear hfz20_0
                try clear hfz20_1
                try clear hfz20_2
                try clear hfz20_3
                try clear hfz20_4
                try clear hfz20_5
                try clear hfz22_0
                try clear hfz22_1
                try clear hfz22_2
                try clear hfz22_3
                try clear hfz22_4
                try clear hfz22_5
                try clear hfz6_0
                try clear hfz6_1
                try clear hfz6_2
                try clear hfz6_3
                try clear hfz6_4
                try clear hfz6_5
                try clear hfz7_0
                try clear hfz7_1
                try clear hfz7_2
                try clear hfz7_3
                try clear hfz7_4
                try clear hfz7_5
                try clear p2
                obtain ⟨kq, x38_20, rfl, HA, HJ20, BK101, HB⟩ := hcut
                cases kq with
                | zero => exact absurd HA.out (by simp [wire_Right.j3])
                | succ kj20 =>
                  have H := HA.out
                  clear HA
                  simp only [wire_Right.j3] at H
                  by_cases c27 : x38_20 = true
                  · subst c27
                    have H1 : (if x3_8 = true then ((wire_within.f a0_4 0 127).bind fun t105 => (some t105)) else (some false)) = some r := by rw [if_pos rfl] at H; exact H
                    clear H
                    have H := H1
                    clear H1
                    by_cases c28 : x3_8 = true
                    rotate_left
                    · replace c28 := Bool.eq_false_iff.mpr c28
                      subst c28
                      have H1 : (some false) = some r := by rw [if_neg (show ¬ (false = true) by decide)] at H; exact H
                      clear H
                      have H := H1
                      clear H1
                      obtain rfl := Option.some.inj H
                      go_wp2
                      go_ret
                      exact ⟨by first | rfl | (simp [errW_none, errW_some] <;> rfl) | (simp [*, errW_none, errW_some] <;> rfl), qS1 GE101 HB.out⟩
                    subst c28
                    have H1 : ((wire_within.f a0_4 0 127).bind fun t105 => (some t105)) = some r := by rw [if_pos rfl] at H; exact H
                    clear H
                    have H := H1
                    clear H1
                    replace H := Option.bind_eq_some_iff.mp H
                    obtain ⟨t105, A290, H⟩ := H
                    replace H : (some t105) = some r := H
                    have A29 := Aside0.mk A290
                    clear A290
                    obtain rfl := Option.some.inj H
                    obtain ⟨hcz30_0, hcz30_1, hcz30_2, hcz30_3, hcz30_4, hcz30_5, hfz30_0, hfz30_1, hfz30_2, hfz30_3, hfz30_4, hfz30_5⟩ := blk6 BK101.out
                    go_wp2_with (first | (go_at_call 58; (with_reducible refine (wire_within.calls a0_4 0 127 t105 _ A29.out).mono ?_); rintro e w' ⟨rfl, ⟨nd, rfl⟩⟩))
                    go_ret
                    exact ⟨by first | rfl | (simp [errW_none, errW_some] <;> rfl) | (simp [*, errW_none, errW_some] <;> rfl), qS1 GE101 HB.out⟩
                  replace c27 := Bool.eq_false_iff.mpr c27
                  subst c27
                  have H1 : (if a0_1 = 12 then (wire_Right.j4 kj20 x3_8 x4_16 a0_1 (a0_1 == 12) a0_0 a0_1 a0_2 a0_3 a0_4 a0_5) else (wire_Right.j4 kj20 x3_8 x4_16 a0_1 (a0_1 == 13) a0_0 a0_1 a0_2 a0_3 a0_4 a0_5)) = some r := by rw [if_neg (show ¬ (false = true) by decide)] at H; exact H
                  clear H
                  have H := H1
                  clear H1
                  have HC31 := Aside0.mk H
                  clear H
                  go_upto_if 50 with (fail)
                  go_cut [50] (fun v50 wc => ∃ (kq : Nat) (x50_30 : Bool), v50 = .bool x50_30 ∧ Aside0 (wire_Right.j4 kq x3_8 x4_16 a0_1 x50_30 a0_0 a0_1 a0_2 a0_3 a0_4 a0_5 = some r) ∧ Aside0 (kq ≤ kj20) ∧ Aside0 (wc.heap[gb101]? = some (.cells #[.int .i64 a0_0, .int .i64 a0_1, .int .i64 a0_2, .int .i64 a0_3, .int .i64 a0_4, .string a0_5] 28 (0, 0))) ∧ Aside0 (Below w.heap.size w wc))
                  case first =>
                    have H := HC31.out
                    clear HC31
                    by_cases c32 : a0_1 = 12
                    rotate_left
                    · rw [if_neg c32] at H
                      have c32b0 : (a0_1 == 12) = false := beq_eq_false_iff_ne.mpr c32
                      have c32b1 : (a0_1 != 12) = true := bne_iff_ne.mpr c32
                      (first | rw [c32b0] | (simp only [i64_w, i32_w]; rw [c32b0]) | skip)
                      have H' := Aside0.mk H
                      clear H
                      go_wp2
                      go_meet
                      case rel => exact ⟨_, ((a0_1 == 13)), (by first | rfl | (simp; done) | (simp [*]; done)), H', ⟨by have := HJ1.out; have := HJ8.out; have := HJ16.out; have := HJ20.out; first | omega | exact Nat.le_refl _⟩, ⟨bq BK101.out⟩, ⟨qS1 GE101 HB.out⟩⟩
                    rw [if_pos c32] at H
                    have c32b0 : (a0_1 == 12) = true := beq_iff_eq.mpr c32
                    have c32b1 : (a0_1 != 12) = false := bne_eq_false_iff_eq.mpr c32
                    clear c32
                    (first | rw [c32b0] | (simp only [i64_w, i32_w]; rw [c32b0]) | skip)
                    have H' := Aside0.mk H
                    clear H
                    go_wp2
                    go_meet
                    case rel => exact ⟨_, ((a0_1 == 12)), (by first | rfl | (simp; done) | (simp [*]; done)), H', ⟨by have := HJ1.out; have := HJ8.out; have := HJ16.out; have := HJ20.out; first | omega | exact Nat.le_refl _⟩, ⟨bq BK101.out⟩, ⟨qS1 GE101 HB.out⟩⟩
                  case rest =>
                    clear HC31
                    try clear c1
                    try clear c2
                    try clear p2
                    try clear c3
                    try clear c5
                    try clear c8
                    try clear c10
                    try clear c10b0
                    try clear c10b1
                    try clear c12
                    try clear c18
                    try clear c18b0
                    try clear c18b1
                    try clear c23
                    try clear c23b0
                    try clear c23b1
                    try clear c24
                    try clear c24b0
                    try clear c24b1
                    try clear c25
                    try clear c25b0
                    try clear c25b1
                    try clear c26
                    try clear c26b0
                    try clear c26b1
                    try clear c27
                    try clear c28
                    try clear c32
                    try clear c32b0
                    try clear c32b1
                    try clear hcz14_0
                    try clear hcz14_1
                    try clear hcz14_2
                    try clear hcz14_3
                    try clear hcz14_4
                    try clear hcz14_5
                    try clear hcz15_0
                    try clear hcz15_1
                    try clear hcz15_2
                    try clear hcz15_3
                    try clear hcz15_4
                    try clear hcz15_5
                    try clear hcz16_0
                    try clear hcz16_1
                    try clear hcz16_2
                    try clear hcz16_3
                    try clear hcz16_4
                    try clear hcz16_5
                    try clear hcz19_0
                    try clear hcz19_1
                    try clear hcz19_2
                    try clear hcz19_3
                    try clear hcz19_4
                    try clear hcz19_5
                    try clear hcz20_0
                    try clear hcz20_1
                    try clear hcz20_2
                    try clear hcz20_3
                    try clear hcz20_4
                    try clear hcz20_5
                    try clear hcz22_0
                    try clear hcz22_1
                    try clear hcz22_2
                    try clear hcz22_3
                    try clear hcz22_4
                    try clear hcz22_5
                    try clear hcz30_0
                    try clear hcz30_1
                    try clear hcz30_2
                    try clear hcz30_3
                    try clear hcz30_4
                    try clear hcz30_5
                    try clear hcz6_0
                    try clear hcz6_1
                    try clear hcz6_2
                    try clear hcz6_3
                    try clear hcz6_4
                    try clear hcz6_5
                    try clear hcz7_0
                    try clear hcz7_1
                    try clear hcz7_2
                    try clear hcz7_3
                    try clear hcz7_4
                    try clear hcz7_5
                    try clear hfz14_0
                    try clear hfz14_1
                    try clear hfz14_2
                    try clear hfz14_3
                    try clear hfz14_4
                    try clear hfz14_5
                    try clear hfz15_0
                    try clear hfz15_1
                    try clear hfz15_2
                    try clear hfz15_3
                    try clear hfz15_4
                    try clear hfz15_5
                    try clear hfz16_0
                    try clear hfz16_1
                    try clear hfz16_2
                    try clear hfz16_3
                    try clear hfz16_4
                    try clear hfz16_5
                    try clear hfz19_0
                    try clear hfz19_1
                    try clear hfz19_2
                    try clear hfz19_3
                    try clear hfz19_4
                    try clear hfz19_5
                    try clear hfz20_0
                    try clear hfz20_1
                    try clear hfz20_2
                    try clear hfz20_3
                    try clear hfz20_4
                    try clear hfz20_5
                    try clear hfz22_0
                    try clear hfz22_1
                    try clear hfz22_2
                    try clear hfz22_3
                    try clear hfz22_4
                    try clear hfz22_5
                    try clear hfz30_0
                    try clear hfz30_1
                    try clear hfz30_2
                    try clear hfz30_3
                    try clear hfz30_4
                    try clear hfz30_5
                    try clear hfz6_0
                    try clear hfz6_1
                    try clear hfz6_2
                    try clear hfz6_3
                    try clear hfz6_4
                    try clear hfz6_5
                    try clear hfz7_0
                    try clear hfz7_1
                    try clear hfz7_2
                    try clear hfz7_3
                    try clear hfz7_4
                    try clear hfz7_5
                    try clear p2
                    obtain ⟨kq, x50_30, rfl, HA, HJ30, BK101, HB⟩ := hcut
                    cases kq with
                    | zero => exact absurd HA.out (by simp [wire_Right.j4])
                    | succ kj30 =>
                      have H := HA.out
                      clear HA
                      simp only [wire_Right.j4] at H
                      by_cases c33 : x50_30 = true
                      · subst c33
                        have H1 : (if x3_8 = true then (some (a0_4 == 0)) else (some false)) = some r := by rw [if_pos rfl] at H; exact H
                        clear H
                        have H := H1
                        clear H1
                        by_cases c34 : x3_8 = true
                        · subst c34
                          have H1 : (some (a0_4 == 0)) = some r := by rw [if_pos rfl] at H; exact H
                          clear H
                          have H := H1
                          clear H1
                          obtain rfl := Option.some.inj H
                          obtain ⟨hcz35_0, hcz35_1, hcz35_2, hcz35_3, hcz35_4, hcz35_5, hfz35_0, hfz35_1, hfz35_2, hfz35_3, hfz35_4, hfz35_5⟩ := blk6 BK101.out
                          go_wp2
                          go_ret
                          exact ⟨by first | rfl | (simp [errW_none, errW_some] <;> rfl) | (simp [*, errW_none, errW_some] <;> rfl), qS1 GE101 HB.out⟩
                        replace c34 := Bool.eq_false_iff.mpr c34
                        subst c34
                        have H1 : (some false) = some r := by rw [if_neg (show ¬ (false = true) by decide)] at H; exact H
                        clear H
                        have H := H1
                        clear H1
                        obtain rfl := Option.some.inj H
                        go_wp2
                        go_ret
                        exact ⟨by first | rfl | (simp [errW_none, errW_some] <;> rfl) | (simp [*, errW_none, errW_some] <;> rfl), qS1 GE101 HB.out⟩
                      replace c33 := Bool.eq_false_iff.mpr c33
                      subst c33
                      have H1 : (if a0_1 = 15 then (if x4_16 = true then (if a0_3 = 240 then (some true) else (some (a0_3 == 247))) else (some false)) else (if a0_1 = 16 then (if x4_16 = true then ((wire_within.f a0_3 0 127).bind fun t106 => (some t106)) else (some false)) else (some false))) = some r := by rw [if_neg (show ¬ (false = true) by decide)] at H; exact H
                      clear H
                      have H := H1
                      clear H1
                      by_cases c36 : a0_1 = 15
                      · rw [if_pos c36] at H
                        have c36b0 : (a0_1 == 15) = true := beq_iff_eq.mpr c36
                        have c36b1 : (a0_1 != 15) = false := bne_eq_false_iff_eq.mpr c36
                        clear c36
                        by_cases c37 : x4_16 = true
                        rotate_left
                        · replace c37 := Bool.eq_false_iff.mpr c37
                          subst c37
                          have H1 : (some false) = some r := by rw [if_neg (show ¬ (false = true) by decide)] at H; exact H
                          clear H
                          have H := H1
                          clear H1
                          obtain rfl := Option.some.inj H
                          go_wp2
                          go_ret
                          exact ⟨by first | rfl | (simp [errW_none, errW_some] <;> rfl) | (simp [*, errW_none, errW_some] <;> rfl), qS1 GE101 HB.out⟩
                        subst c37
                        have H1 : (if a0_3 = 240 then (some true) else (some (a0_3 == 247))) = some r := by rw [if_pos rfl] at H; exact H
                        clear H
                        have H := H1
                        clear H1
                        by_cases c38 : a0_3 = 240
                        rotate_left
                        · rw [if_neg c38] at H
                          have c38b0 : (a0_3 == 240) = false := beq_eq_false_iff_ne.mpr c38
                          have c38b1 : (a0_3 != 240) = true := bne_iff_ne.mpr c38
                          obtain rfl := Option.some.inj H
                          obtain ⟨hcz40_0, hcz40_1, hcz40_2, hcz40_3, hcz40_4, hcz40_5, hfz40_0, hfz40_1, hfz40_2, hfz40_3, hfz40_4, hfz40_5⟩ := blk6 BK101.out
                          go_wp2
                          go_ret
                          exact ⟨by first | rfl | (simp [errW_none, errW_some] <;> rfl) | (simp [*, errW_none, errW_some] <;> rfl), qS1 GE101 HB.out⟩
                        rw [if_pos c38] at H
                        have c38b0 : (a0_3 == 240) = true := beq_iff_eq.mpr c38
                        have c38b1 : (a0_3 != 240) = false := bne_eq_false_iff_eq.mpr c38
                        clear c38
                        obtain rfl := Option.some.inj H
                        obtain ⟨hcz39_0, hcz39_1, hcz39_2, hcz39_3, hcz39_4, hcz39_5, hfz39_0, hfz39_1, hfz39_2, hfz39_3, hfz39_4, hfz39_5⟩ := blk6 BK101.out
                        go_wp2
                        go_ret
                        exact ⟨by first | rfl | (simp [errW_none, errW_some] <;> rfl) | (simp [*, errW_none, errW_some] <;> rfl), qS1 GE101 HB.out⟩
                      rw [if_neg c36] at H
                      have c36b0 : (a0_1 == 15) = false := beq_eq_false_iff_ne.mpr c36
                      have c36b1 : (a0_1 != 15) = true := bne_iff_ne.mpr c36
                      by_cases c41 : a0_1 = 16
                      rotate_left
                      · rw [if_neg c41] at H
                        have c41b0 : (a0_1 == 16) = false := beq_eq_false_iff_ne.mpr c41
                        have c41b1 : (a0_1 != 16) = true := bne_iff_ne.mpr c41
                        obtain rfl := Option.some.inj H
                        go_wp2
                        go_ret
                        exact ⟨by first | rfl | (simp [errW_none, errW_some] <;> rfl) | (simp [*, errW_none, errW_some] <;> rfl), qS1 GE101 HB.out⟩
                      rw [if_pos c41] at H
                      have c41b0 : (a0_1 == 16) = true := beq_iff_eq.mpr c41
                      have c41b1 : (a0_1 != 16) = false := bne_eq_false_iff_eq.mpr c41
                      clear c41
                      by_cases c42 : x4_16 = true
                      rotate_left
                      · replace c42 := Bool.eq_false_iff.mpr c42
                        subst c42
                        have H1 : (some false) = some r := by rw [if_neg (show ¬ (false = true) by decide)] at H; exact H
                        clear H
                        have H := H1
                        clear H1
                        obtain rfl := Option.some.inj H
                        go_wp2
                        go_ret
                        exact ⟨by first | rfl | (simp [errW_none, errW_some] <;> rfl) | (simp [*, errW_none, errW_some] <;> rfl), qS1 GE101 HB.out⟩
                      subst c42
                      have H1 : ((wire_within.f a0_3 0 127).bind fun t106 => (some t106)) = some r := by rw [if_pos rfl] at H; exact H
                      clear H
                      have H := H1
                      clear H1
                      replace H := Option.bind_eq_some_iff.mp H
                      obtain ⟨t106, A430, H⟩ := H
                      replace H : (some t106) = some r := H
                      have A43 := Aside0.mk A430
                      clear A430
                      obtain rfl := Option.some.inj H
                      obtain ⟨hcz44_0, hcz44_1, hcz44_2, hcz44_3, hcz44_4, hcz44_5, hfz44_0, hfz44_1, hfz44_2, hfz44_3, hfz44_4, hfz44_5⟩ := blk6 BK101.out
                      go_wp2_with (first | (go_at_call 58; (with_reducible refine (wire_within.calls a0_3 0 127 t106 _ A43.out).mono ?_); rintro e w' ⟨rfl, ⟨nd, rfl⟩⟩))
                      go_ret
                      exact ⟨by first | rfl | (simp [errW_none, errW_some] <;> rfl) | (simp [*, errW_none, errW_some] <;> rfl), qS1 GE101 HB.out⟩
end Go.Proofs.Ytdmnknhlibaaoaa.M
namespace Go.Proofs.Ytdmnknhlibaaoaa.M
open Go.RowKit Go.Proofs.YtdmnknhlibaaoaaW.PrintWords Go.Proofs.YtdmnknhlibaaoaaW.PrintLast Go.Proofs.YtdmnknhlibaaoaaW.PrintMore
attribute [local go_sem] max2_int min2_int max_two min_two max_three min_three max_four min_four
set_option linter.unusedVariables false
set_option linter.unusedSimpArgs false
def wire_number.part (b n : Int) : List Int := if b ≤ n then [n / b % 128 + 128] else []
def wire_number.num (n : Int) : List Int := wire_number.part 2097152 n ++ wire_number.part 16384 n ++ wire_number.part 128 n ++ [n % 128]
def wire_number.f (a0 : Int) : Option (List Int) := if 0 ≤ a0 then (if a0 ≤ 268435455 then (some (wire_number.num a0)) else (none)) else (none)
theorem info5t : (Try.prog.info? 5).map (fun i => (i.zero, i.size, i.bytes)) = some (some (.int .u8 0), 1, 1) := by kernel_rfl
def PartPost (base Bn Bo : Nat) (n : Int) (xs : List Value) (w w' : World) : Prop :=
  ∃ v : Value, w'.heap[Bo]? = some (.cells #[v] 39 (0, 0)) ∧ w'.heap[Bn]? = some (.cells #[.int .i64 n] 3 (0, 0)) ∧ w'.ownsRow base 5 1 v xs.length xs ∧ v.ownBlock ≠ some Bo ∧ v.ownBlock ≠ some Bn ∧ Below base w w' ∧ base ≤ w'.heap.size
theorem part_end {n : Int} {Bn Bo base gg cap : Nat} {v : Value} {xs : List Value} {w w1 : World} {x : Value}
    (hN : w.heap[Bn]? = some (.cells #[.int .i64 n] 3 (0, 0))) (hO : w.heap[Bo]? = some (.cells #[v] 39 (0, 0))) (hbase : base ≤ w.heap.size) (hbo : base ≤ Bo) (hown : w.ownsRow base 5 1 v xs.length xs)
    (ao : v.ownBlock ≠ some Bo) (an : v.ownBlock ≠ some Bn) (hno : Bn ≠ Bo)
    (hown1 : w1.ownsRow base 5 1 (.slice (some ⟨gg, 0, none⟩) (xs.length + 1) cap) (xs.length + 1) (xs ++ [x]))
    (hgrow : (w.alloc (.cells #[x] 5)).drew.grownBy w1 v.ownBlock) (hat : v.ownBlock = some gg ∨ gg = w.heap.size + 1) :
    PartPost base Bn Bo n (xs ++ [x]) w (w1.setCell ⟨Bo, 0, none⟩ (.slice (some ⟨gg, 0, none⟩) (xs.length + 1) cap)) := by
  have lo := lt_of_block hO
  have ln := lt_of_block hN
  have gO : gg ≠ Bo := by
    rcases hat with h | h
    · intro e; exact ao (by rw [h, e])
    · omega
  have gN : gg ≠ Bn := by
    rcases hat with h | h
    · intro e; exact an (by rw [h, e])
    · omega
  have bO1 : w1.heap[Bo]? = some (.cells #[v] 39 (0, 0)) := by
    rw [hgrow.block Bo (by simp; omega) (Ne.symm ao)]
    exact (Below.heap_alloc _ _ _ lo).trans hO
  have bN1 : w1.heap[Bn]? = some (.cells #[.int .i64 n] 3 (0, 0)) := by
    rw [hgrow.block Bn (by simp; omega) (Ne.symm an)]
    exact (Below.heap_alloc _ _ _ ln).trans hN
  have hB1 : Below base w w1 := (((Below.refl base w).alloc hbase _).drew).grown hgrow (by simp; omega) (fun k hk => own_base hown k hk)
  refine ⟨.slice (some ⟨gg, 0, none⟩) (xs.length + 1) cap, one_setCell bO1, ?_, ?_, ?_, ?_, ?_, ?_⟩
  · rw [Below.heap_setCell _ _ _ _ hno]; exact bN1
  · simpa using ownsRow_setCell_other hown1 (a := ⟨Bo, 0, none⟩) (by simpa [Value.ownBlock] using gO) _
  · simpa [Value.ownBlock] using gO
  · simpa [Value.ownBlock] using gN
  · exact hB1.setCell (p := ⟨Bo, 0, none⟩) hbo _
  · have := hB1.size; simp; omega
set_option maxRecDepth 100000 in
set_option maxHeartbeats 1600000 in
theorem part_yes (b n : Int) (Bn Bo base : Nat) (v : Value) (xs : List Value) (w : World) (hb0 : 1 ≤ b) (hb1 : b ≤ 2097152) (hn0 : 0 ≤ n) (hn1 : n ≤ 268435455) (hge : b ≤ n)
    (hN : w.heap[Bn]? = some (.cells #[.int .i64 n] 3 (0, 0))) (hO : w.heap[Bo]? = some (.cells #[v] 39 (0, 0)))
    (hown : w.ownsRow base 5 1 v xs.length xs) (hlen : xs.length ≤ 1000) (hbase : base ≤ w.heap.size)
    (ao : v.ownBlock ≠ some Bo) (an : v.ownBlock ≠ some Bn) (hno : Bn ≠ Bo) (hbo : base ≤ Bo) :
    Calls Try.prog 59 #[.int .i64 b, .pointer (some ⟨Bn, 0, none⟩), .pointer (some ⟨Bo, 0, none⟩)] w fun e w' => e = .returned (.tuple #[]) ∧ PartPost base Bn Bo n (xs ++ [.int .u8 (n / b % 128 + 128)]) w w' := by
  obtain ⟨i0, hi0, hz0, hz1, hz2⟩ := info_parts info5t
  have lo := lt_of_block hO
  have ln := lt_of_block hN
  have cN := cell_of_one hN
  have cO := cell_of_one hO
  have fO := free_of_one hO
  have hd : decide (b ≤ n) = true := decide_eq_true hge
  have hq0 : 0 ≤ n / b := Int.ediv_nonneg hn0 (by omega)
  have hm0 : 0 ≤ n / b % 128 := Int.emod_nonneg _ (by decide)
  have hm1 : n / b % 128 < 128 := Int.emod_lt_of_pos _ (by decide)
  have hs1 : IntKind.i64.wrap (n / b % 128 + 128) = n / b % 128 + 128 := IntWalk.i64_in _ (by omega)
  have hs2 : IntKind.u8.wrap (n / b % 128 + 128) = n / b % 128 + 128 := by rw [IntKind.wrap, if_neg (by simp [IntKind.signed])]; simp [IntKind.bits]; omega
  have hs3 : (n / b).tmod 128 = n / b % 128 := Int.tmod_eq_emod_of_nonneg hq0
  have hs4 : IntKind.i64.wrap (n.tdiv b) = n / b := by rw [Int.tdiv_eq_ediv_of_nonneg hn0]; exact IntWalk.i64_in _ (by have := Int.ediv_le_self b hn0; omega)
  have hbz : (b == 0) = false := beq_eq_false_iff_ne.mpr (by omega)
  have hbz' : ¬ b = 0 := by omega
  go_enter Try.func59, Try.ntmps59
  go_wp2_with fail
  go_region_law (refine step_append_lies _ (by rfl) _ _ _ (by rfl) base 5 i0 _ 1 1 Try.underlying39 hi0 hz0 hz1 hz2 rfl (by omega) v xs.length xs (by rfl) ((hown.alloc _).drew) ⟨w.heap.size, 0, none⟩ 1 1 [.int .u8 (n / b % 128 + 128)] (by rfl) (by rfl) (World.news_of_block (heap_alloc_new w _)) (by simp [Value.oneCell']) (by omega) (by unfold maxLen; omega) (by omega) (by simp; omega) (w.heap.size + 1) (by simp) ?_; intro gg cap w1 hown1 hgrow hat hlt; have c1 : w1.cell? ⟨Bo, 0, none⟩ = some v := (by rw [hgrow.cell_far _ (by simp; omega) (by simpa using Ne.symm ao)]; exact (World.cell?_alloc_lt _ _ _ lo).trans cO); have f1 : w1.frozen? ⟨Bo, 0, none⟩ = false := (by rw [hgrow.frozen_far _ (by simp; omega) (by simpa using Ne.symm ao)]; exact (frozen?_alloc_cells _ _ _ _).trans fO))
  all_goals
    refine bodyPost_end (results_none rfl _ _ _) rfl ?_
    exact ⟨rfl, part_end hN hO hbase hbo hown ao an hno hown1 hgrow hat⟩
set_option maxRecDepth 100000 in
theorem part_no (b n : Int) (Bn Bo : Nat) (w : World) (hge : n < b)
    (hN : w.heap[Bn]? = some (.cells #[.int .i64 n] 3 (0, 0))) :
    Calls Try.prog 59 #[.int .i64 b, .pointer (some ⟨Bn, 0, none⟩), .pointer (some ⟨Bo, 0, none⟩)] w fun e w' => e = .returned (.tuple #[]) ∧ w = w' := by
  have cN := cell_of_one hN
  have hd : decide (b ≤ n) = false := decide_eq_false (by omega)
  go_enter Try.func59, Try.ntmps59
  go_wp2_with fail
  go_end0
  exact ⟨rfl, rfl⟩
def partL (b n : Int) : List Value := if b ≤ n then [.int .u8 (n / b % 128 + 128)] else []
theorem partL_len (b n : Int) : (partL b n).length ≤ 1 := by unfold partL; split <;> simp
theorem part_any (b n : Int) (Bn Bo base : Nat) (v : Value) (xs : List Value) (w : World) (hb0 : 1 ≤ b) (hb1 : b ≤ 2097152) (hn0 : 0 ≤ n) (hn1 : n ≤ 268435455)
    (hN : w.heap[Bn]? = some (.cells #[.int .i64 n] 3 (0, 0))) (hO : w.heap[Bo]? = some (.cells #[v] 39 (0, 0)))
    (hown : w.ownsRow base 5 1 v xs.length xs) (hlen : xs.length ≤ 1000) (hbase : base ≤ w.heap.size)
    (ao : v.ownBlock ≠ some Bo) (an : v.ownBlock ≠ some Bn) (hno : Bn ≠ Bo) (hbo : base ≤ Bo) :
    Calls Try.prog 59 #[.int .i64 b, .pointer (some ⟨Bn, 0, none⟩), .pointer (some ⟨Bo, 0, none⟩)] w fun e w' => e = .returned (.tuple #[]) ∧ PartPost base Bn Bo n (xs ++ partL b n) w w' := by
  by_cases h : b ≤ n
  · unfold partL
    rw [if_pos h]
    exact part_yes b n Bn Bo base v xs w hb0 hb1 hn0 hn1 h hN hO hown hlen hbase ao an hno hbo
  · unfold partL
    rw [if_neg h, List.append_nil]
    refine (part_no b n Bn Bo w (by omega) hN).mono ?_
    rintro e w' ⟨rfl, rfl⟩
    exact ⟨rfl, v, hO, hN, hown, ao, an, Below.refl _ _, hbase⟩
def numV (n : Int) : List Value := partL 2097152 n ++ partL 16384 n ++ partL 128 n ++ [Value.int .u8 (n % 128)]
set_option maxRecDepth 100000 in
set_option maxHeartbeats 1600000 in
theorem number_any (n : Int) (w : World) (hn0 : 0 ≤ n) (hn1 : n ≤ 268435455) :
    Calls Try.prog 36 #[.int .i64 n] w fun e w' => ∃ v, e = .returned v ∧ w'.ownsRow w.heap.size 5 1 v (numV n).length (numV n) ∧ Below w.heap.size w w' := by
  obtain ⟨i0, hi0, hz0, hz1, hz2⟩ := info_parts info5t
  have hl1 := partL_len 2097152 n
  have hl2 := partL_len 16384 n
  have hl3 := partL_len 128 n
  have hm1 : 0 ≤ n % 128 := Int.emod_nonneg _ (by decide)
  have hm2 : n % 128 < 128 := Int.emod_lt_of_pos _ (by decide)
  have hs2 : IntKind.u8.wrap (n % 128) = n % 128 := by rw [IntKind.wrap, if_neg (by simp [IntKind.signed])]; simp [IntKind.bits]; omega
  have hs2' : n % 128 % 256 = n % 128 := by omega
  go_enter Try.func36, Try.ntmps36
  go_wp2_with fail
  refine (part_any 2097152 n w.heap.size (w.heap.size + 1) w.heap.size (.slice none 0 0) [] _ (by omega) (by omega) hn0 hn1 ?n1 ?o1 (own_nil _ _ _ _) (by simp) (by simp; omega) (by simp [Value.ownBlock]) (by simp [Value.ownBlock]) (by omega) (by omega)).mono ?_
  case n1 => rw [Below.heap_alloc _ _ _ (by simp)]; exact heap_alloc_new w _
  case o1 => simpa using heap_alloc_new (w.alloc (.cells #[.int .i64 n] 3)) (.cells #[.slice none 0 0] 39)
  rintro e w1 ⟨rfl, v1, hO1, hN1, ho1, ao1, an1, hB1, hs1⟩
  rw [List.nil_append] at ho1
  have HB1 : Hid (Below w.heap.size w w1) := Lib.hid ((((Below.refl _ w).alloc (Nat.le_refl _) _).alloc (by simp) _).trans hB1)
  clear hB1
  go_wp2_with fail
  refine (part_any 16384 n w.heap.size (w.heap.size + 1) w.heap.size v1 (partL 2097152 n) _ (by omega) (by omega) hn0 hn1 hN1 hO1 ho1 (by omega) hs1 ao1 an1 (by omega) (by omega)).mono ?_
  rintro e w2 ⟨rfl, v2, hO2, hN2, ho2, ao2, an2, hB2, hs2⟩
  have HB2 : Hid (Below w.heap.size w w2) := Lib.hid (HB1.out.trans hB2)
  clear hB2
  go_wp2_with fail
  refine (part_any 128 n w.heap.size (w.heap.size + 1) w.heap.size v2 (partL 2097152 n ++ partL 16384 n) _ (by omega) (by omega) hn0 hn1 hN2 hO2 ho2 (by simp; omega) hs2 ao2 an2 (by omega) (by omega)).mono ?_
  rintro e w3 ⟨rfl, v3, hO3, hN3, ho3, ao3, an3, hB3, hs3⟩
  have HB3 : Hid (Below w.heap.size w w3) := Lib.hid (HB2.out.trans hB3)
  clear hB3
  have cN := cell_of_one hN3
  have cO := cell_of_one hO3
  go_wp2_with (at_builtin; go_loud (refine print_append (w0 := w) w.heap.size rfl (.tmp 12) (.tmp 16) 39 5 (.int .u8 0) 1 rfl Try.underlying39 info5t rfl (by decide) v3 (partL 2097152 n ++ partL 16384 n ++ partL 128 n) (.int .u8 (n % 128)) rfl rfl rfl ?aO ?aB ?aS ?aL ?_); (case aO => exact ho3); (case aB => exact HB3.out); (case aS => exact hs3); (case aL => (simp; omega)); intro v4 w4 ho4 hb4 _ _)
  go_ret
  exact ⟨v4, rfl, ho4, hb4⟩
theorem partL_nums (b n : Int) : partL b n = nums .u8 (wire_number.part b n) := by
  unfold partL wire_number.part nums
  split <;> simp
theorem numV_nums (n : Int) : numV n = nums .u8 (wire_number.num n) := by
  unfold numV wire_number.num
  rw [nums_append, nums_append, nums_append, partL_nums, partL_nums, partL_nums]
  rfl
theorem wire_number.calls (a0 : Int) (r : List Int) (w : World) (h : wire_number.f a0 = some r) :
    Calls Try.prog 36 #[.int .i64 a0] w fun e w' => ∃ v0_ : Value, e = .returned (v0_) ∧ Kd.R (Kd.int .u8) 5 w' w.heap.size (fun _ => True) v0_ r ∧ Below w.heap.size w w' := by
  unfold wire_number.f at h
  by_cases h0 : 0 ≤ a0
  · by_cases h1 : a0 ≤ 268435455
    · rw [if_pos h0, if_pos h1] at h
      obtain rfl := Option.some.inj h
      refine (number_any a0 w h0 h1).mono ?_
      rintro e w' ⟨v, rfl, ho, hb⟩
      rw [numV_nums, nums_length] at ho
      exact ⟨v, rfl, Kd.R_of_own (enc := Value.int .u8) (h1 := fun _ => rfl) (ok := fun _ => True) ho (fun _ _ => trivial), hb⟩
    · rw [if_pos h0, if_neg h1] at h
      cases h
  · rw [if_neg h0] at h
    cases h
end Go.Proofs.Ytdmnknhlibaaoaa.M
namespace Go.Proofs.Ytdmnknhlibaaoaa.M
open Go.RowKit Go.Proofs.YtdmnknhlibaaoaaW.PrintWords Go.Proofs.YtdmnknhlibaaoaaW.PrintLast Go.Proofs.YtdmnknhlibaaoaaW.PrintMore
attribute [local go_sem] max2_int min2_int max_two min_two max_three min_three max_four min_four
set_option linter.unusedVariables false
set_option linter.unusedSimpArgs false
def wire_Encode.l0 : Nat → List Int → Int → List (S28) → Int → Int → Option (ByteArray × Int)
  | 0, _, _, _, _, _ => none
  | k + 1, x4, x5, x9, x10, x11 => if x11 < x10 then (if 0 ≤ x11 then (if x11 < (x9.length : Int) then ((wire_Right.f k ((rd_T28 x9 x11).f0) ((rd_T28 x9 x11).f1) ((rd_T28 x9 x11).f2) ((rd_T28 x9 x11).f3) ((rd_T28 x9 x11).f4) ((rd_T28 x9 x11).f5)).bind fun t103 => (if t103 = true then ((wire_number.f ((rd_T28 x9 x11).f0)).bind fun t104 => (if x4.length + t104.length < 140737488355328 then ((some (x4 ++ t104 : List Int)).bind fun y107 => (if ((rd_T28 x9 x11).f1) = 16 then (if y107.length < 140737488355328 then ((some (y107 ++ [255] : List Int)).bind fun y110 => (if y110.length < 140737488355328 then ((some (y110 ++ [((rd_T28 x9 x11).f3) % 256] : List Int)).bind fun y113 => ((wire_number.f (((rd_T28 x9 x11).f5).size : Int)).bind fun t116 => (if y113.length + t116.length < 140737488355328 then ((some (y113 ++ t116 : List Int)).bind fun y119 => (if y119.length + ((rd_T28 x9 x11).f5).size < 140737488355328 then (wire_Encode.l0 k (y119 ++ bytesOf ((rd_T28 x9 x11).f5)) 0 x9 x10 (wrap64 (x11 + 1))) else (none))) else (none)))) else (none))) else (none)) else (if ((rd_T28 x9 x11).f1) = 15 then (if y107.length < 140737488355328 then ((some (y107 ++ [((rd_T28 x9 x11).f3) % 256] : List Int)).bind fun y125 => ((wire_number.f (((rd_T28 x9 x11).f5).size : Int)).bind fun t128 => (if y125.length + t128.length < 140737488355328 then ((some (y125 ++ t128 : List Int)).bind fun y131 => (if y131.length + ((rd_T28 x9 x11).f5).size < 140737488355328 then (wire_Encode.l0 k (y131 ++ bytesOf ((rd_T28 x9 x11).f5)) 0 x9 x10 (wrap64 (x11 + 1))) else (none))) else (none)))) else (none)) else (if (wrap64 ((wrap64 (16 * ((rd_T28 x9 x11).f1))) + ((rd_T28 x9 x11).f2))) = x5 then (if y107.length < 140737488355328 then ((some (y107 ++ [((rd_T28 x9 x11).f3) % 256] : List Int)).bind fun y137 => ((wire_one.f ((rd_T28 x9 x11).f1)).bind fun t140 => (if t140 = true then (wire_Encode.l0 k y137 (wrap64 ((wrap64 (16 * ((rd_T28 x9 x11).f1))) + ((rd_T28 x9 x11).f2))) x9 x10 (wrap64 (x11 + 1))) else (if y137.length < 140737488355328 then (wire_Encode.l0 k (y137 ++ [((rd_T28 x9 x11).f4) % 256]) (wrap64 ((wrap64 (16 * ((rd_T28 x9 x11).f1))) + ((rd_T28 x9 x11).f2))) x9 x10 (wrap64 (x11 + 1))) else (none))))) else (none)) else (if y107.length < 140737488355328 then ((some (y107 ++ [(wrap64 ((wrap64 (16 * ((rd_T28 x9 x11).f1))) + ((rd_T28 x9 x11).f2))) % 256] : List Int)).bind fun y144 => (if y144.length < 140737488355328 then ((some (y144 ++ [((rd_T28 x9 x11).f3) % 256] : List Int)).bind fun y147 => ((wire_one.f ((rd_T28 x9 x11).f1)).bind fun t150 => (if t150 = true then (wire_Encode.l0 k y147 (wrap64 ((wrap64 (16 * ((rd_T28 x9 x11).f1))) + ((rd_T28 x9 x11).f2))) x9 x10 (wrap64 (x11 + 1))) else (if y147.length < 140737488355328 then (wire_Encode.l0 k (y147 ++ [((rd_T28 x9 x11).f4) % 256]) (wrap64 ((wrap64 (16 * ((rd_T28 x9 x11).f1))) + ((rd_T28 x9 x11).f2))) x9 x10 (wrap64 (x11 + 1))) else (none))))) else (none))) else (none)))))) else (none))) else (some ((⟨#[]⟩ : ByteArray), 151)))) else (none)) else (none)) else (some (strOfNums x4, 0))
def wire_Encode.f (k : Nat) (l0 : List (S28)) : Option (ByteArray × Int) := wire_Encode.l0 k ([] : List Int) 0 l0 (l0.length : Int) 0
theorem wire_Encode.mono_l : ∀ k, (∀ y0 y1 y2 y3 y4, LeO (wire_Encode.l0 k y0 y1 y2 y3 y4) (wire_Encode.l0 (k + 1) y0 y1 y2 y3 y4))
  | 0 => fun _ _ _ _ _ r h => by simp [wire_Encode.l0] at h
  | k + 1 => by
    have ih0 := wire_Encode.mono_l k
    · intro y0 y1 y2 y3 y4
      unfold wire_Encode.l0
      repeat' first
      | (with_reducible exact ih0 _ _ _ _ _)
      | (with_reducible exact wire_Right.mono _ _ _ _ _ _ _)
      | (with_reducible exact LeO.refl _)
      | (with_reducible exact LeO.none _)
      | (with_reducible refine LeO.ite ?_ ?_)
      | (with_reducible refine LeO.bind ?_ (fun _ => ?_))
      | exact ih0 _ _ _ _ _
      | exact wire_Right.mono _ _ _ _ _ _ _
      | exact LeO.none _
      | refine LeO.ite ?_ ?_
      | refine LeO.bind ?_ (fun _ => ?_)
theorem wire_Encode.mono : ∀ a0 k, LeO (wire_Encode.f k a0) (wire_Encode.f (k + 1) a0) := by
  intro a0 k
  have ih0 := wire_Encode.mono_l k
  unfold wire_Encode.f
  repeat' first
      | (with_reducible exact ih0 _ _ _ _ _)
      | (with_reducible exact wire_Right.mono _ _ _ _ _ _ _)
      | (with_reducible exact LeO.refl _)
      | (with_reducible exact LeO.none _)
      | (with_reducible refine LeO.ite ?_ ?_)
      | (with_reducible refine LeO.bind ?_ (fun _ => ?_))
      | exact ih0 _ _ _ _ _
      | exact wire_Right.mono _ _ _ _ _ _ _
      | exact LeO.none _
      | refine LeO.ite ?_ ?_
      | refine LeO.bind ?_ (fun _ => ?_)
set_option maxHeartbeats 8000000 in
set_option maxRecDepth 100000 in
theorem wire_Encode.calls (k : Nat) (A0 : Option Addr) (c0 : Nat) (l0 : List (S28)) (r1 : ByteArray) (r2 : Int) (w : World) (hr0 : Kd.C k28 w A0 l0.length l0) (hc0 : l0.length ≤ c0) (h : wire_Encode.f k l0 = some (r1, r2)) :
    Calls Try.prog 22 #[.slice A0 l0.length c0] w fun e w' => e = .returned (.tuple #[.string r1, .int .i64 r2]) ∧ Below w.heap.size w w' := by
  have hu28 := Try.underlying28
  have HR0 := Aside0.mk hr0
  have HC0 := Aside0.mk hc0
  clear hr0 hc0
  have HB := Aside0.mk (Below.refl w.heap.size w)
  have H : (wire_Encode.l0 k ([] : List Int) 0 l0 (l0.length : Int) 0) = some (r1, r2) := h
  clear h
  have H' := Aside0.mk H
  clear H
  go_enter Try.func22, Try.ntmps22
  go_wp2
  go_loopg [4, 5, 11] k (fun kq v4 v5 v11 w' => ∃ (x4_1 : List Int) (x5_1 : Int) (x11_1 : Int), v5 = .int .i64 x5_1 ∧ v11 = .int .i64 x11_1 ∧ Aside0 (wire_Encode.l0 kq x4_1 x5_1 l0 (l0.length : Int) x11_1 = some (r1, r2)) ∧ Aside0 (kq ≤ k) ∧ Aside0 (Kd.R (Kd.int .u8) 5 w' w.heap.size (fun _ => True) v4 x4_1) ∧ Aside0 (Below w.heap.size w w'))
  case atStart => exact ⟨(([] : List Int)), (0), (0), (by first | rfl | (simp; done) | (simp [*]; done)), (by first | rfl | (simp; done) | (simp [*]; done)), H', ⟨Nat.le_refl _⟩, ⟨by first | exact Kd.R_nil _ _ _ _ _ | exact Kd.N_nil _ _ _ _ _ | exact Kd.V_nil _ _ _ _ _ | exact Kd.Q_nil _ _ _ _ _ | exact Kd.S_nil _ _ _ _ _⟩, ⟨qB HB.out⟩⟩
  case round =>
    clear H'
    obtain ⟨x4_1, x5_1, x11_1, rfl, rfl, HA, HK1, HO_4, HB⟩ := hrel
    cases gk with
    | zero => exact absurd HA.out (by simp [wire_Encode.l0])
    | succ k1 =>
      have H := HA.out
      clear HA
      simp only [wire_Encode.l0] at H
      by_cases c2 : x11_1 < (l0.length : Int)
      rotate_left
      · rw [if_neg c2] at H
        have c2b0 : decide (x11_1 < (l0.length : Int)) = false := decide_eq_false c2
        clear c2
        simp only [Option.some.injEq, Prod.mk.injEq] at H
        obtain ⟨rfl, rfl⟩ := H
        have hcv111 := own_string (P := Try.prog) Try.underlying39 Try.underlying5 Try.underlying9 (Kd.own_of_R HO_4.out)
        go_wp2
        go_ret2
        exact ⟨by first | rfl | (simp [errW_none, errW_some] <;> rfl) | (simp [*, errW_none, errW_some] <;> rfl), qB HB.out⟩
      rw [if_pos c2] at H
      have c2b0 : decide (x11_1 < (l0.length : Int)) = true := decide_eq_true c2
      clear c2
      by_cases c3 : 0 ≤ x11_1
      rotate_left
      · rw [if_neg c3] at H
        exact absurd H (by simp)
      rw [if_pos c3] at H
      have c3b0 : decide (0 ≤ x11_1) = true := decide_eq_true c3
      clear c3
      by_cases c4 : x11_1 < (l0.length : Int)
      rotate_left
      · rw [if_neg c4] at H
        exact absurd H (by simp)
      rw [if_pos c4] at H
      have c4b0 : decide (x11_1 < (l0.length : Int)) = true := decide_eq_true c4
      clear c4
      replace H := Option.bind_eq_some_iff.mp H
      obtain ⟨t103, A50, H⟩ := H
      replace H : (if t103 = true then ((wire_number.f ((rd_T28 l0 x11_1).f0)).bind fun t104 => (if x4_1.length + t104.length < 140737488355328 then ((some (x4_1 ++ t104 : List Int)).bind fun y107 => (if ((rd_T28 l0 x11_1).f1) = 16 then (if y107.length < 140737488355328 then ((some (y107 ++ [255] : List Int)).bind fun y110 => (if y110.length < 140737488355328 then ((some (y110 ++ [((rd_T28 l0 x11_1).f3) % 256] : List Int)).bind fun y113 => ((wire_number.f (((rd_T28 l0 x11_1).f5).size : Int)).bind fun t116 => (if y113.length + t116.length < 140737488355328 then ((some (y113 ++ t116 : List Int)).bind fun y119 => (if y119.length + ((rd_T28 l0 x11_1).f5).size < 140737488355328 then (wire_Encode.l0 k1 (y119 ++ bytesOf ((rd_T28 l0 x11_1).f5)) 0 l0 (l0.length : Int) (wrap64 (x11_1 + 1))) else (none))) else (none)))) else (none))) else (none)) else (if ((rd_T28 l0 x11_1).f1) = 15 then (if y107.length < 140737488355328 then ((some (y107 ++ [((rd_T28 l0 x11_1).f3) % 256] : List Int)).bind fun y125 => ((wire_number.f (((rd_T28 l0 x11_1).f5).size : Int)).bind fun t128 => (if y125.length + t128.length < 140737488355328 then ((some (y125 ++ t128 : List Int)).bind fun y131 => (if y131.length + ((rd_T28 l0 x11_1).f5).size < 140737488355328 then (wire_Encode.l0 k1 (y131 ++ bytesOf ((rd_T28 l0 x11_1).f5)) 0 l0 (l0.length : Int) (wrap64 (x11_1 + 1))) else (none))) else (none)))) else (none)) else (if (wrap64 ((wrap64 (16 * ((rd_T28 l0 x11_1).f1))) + ((rd_T28 l0 x11_1).f2))) = x5_1 then (if y107.length < 140737488355328 then ((some (y107 ++ [((rd_T28 l0 x11_1).f3) % 256] : List Int)).bind fun y137 => ((wire_one.f ((rd_T28 l0 x11_1).f1)).bind fun t140 => (if t140 = true then (wire_Encode.l0 k1 y137 (wrap64 ((wrap64 (16 * ((rd_T28 l0 x11_1).f1))) + ((rd_T28 l0 x11_1).f2))) l0 (l0.length : Int) (wrap64 (x11_1 + 1))) else (if y137.length < 140737488355328 then (wire_Encode.l0 k1 (y137 ++ [((rd_T28 l0 x11_1).f4) % 256]) (wrap64 ((wrap64 (16 * ((rd_T28 l0 x11_1).f1))) + ((rd_T28 l0 x11_1).f2))) l0 (l0.length : Int) (wrap64 (x11_1 + 1))) else (none))))) else (none)) else (if y107.length < 140737488355328 then ((some (y107 ++ [(wrap64 ((wrap64 (16 * ((rd_T28 l0 x11_1).f1))) + ((rd_T28 l0 x11_1).f2))) % 256] : List Int)).bind fun y144 => (if y144.length < 140737488355328 then ((some (y144 ++ [((rd_T28 l0 x11_1).f3) % 256] : List Int)).bind fun y147 => ((wire_one.f ((rd_T28 l0 x11_1).f1)).bind fun t150 => (if t150 = true then (wire_Encode.l0 k1 y147 (wrap64 ((wrap64 (16 * ((rd_T28 l0 x11_1).f1))) + ((rd_T28 l0 x11_1).f2))) l0 (l0.length : Int) (wrap64 (x11_1 + 1))) else (if y147.length < 140737488355328 then (wire_Encode.l0 k1 (y147 ++ [((rd_T28 l0 x11_1).f4) % 256]) (wrap64 ((wrap64 (16 * ((rd_T28 l0 x11_1).f1))) + ((rd_T28 l0 x11_1).f2))) l0 (l0.length : Int) (wrap64 (x11_1 + 1))) else (none))))) else (none))) else (none)))))) else (none))) else (some ((⟨#[]⟩ : ByteArray), 151))) = some (r1, r2) := H
      have A5 := Aside0.mk A50
      clear A50
      by_cases c6 : t103 = true
      rotate_left
      · replace c6 := Bool.eq_false_iff.mpr c6
        subst c6
        have H1 : (some ((⟨#[]⟩ : ByteArray), 151)) = some (r1, r2) := by rw [if_neg (show ¬ (false = true) by decide)] at H; exact H
        clear H
        have H := H1
        clear H1
        simp only [Option.some.injEq, Prod.mk.injEq] at H
        obtain ⟨rfl, rfl⟩ := H
        have p101 : 0 ≤ (x11_1 : Int) := of_decide_eq_true (by first | (with_reducible assumption) | assumption)
        have q101 : x11_1 < (l0.length : Int) := of_decide_eq_true (by first | (with_reducible assumption) | assumption)
        obtain ⟨ad101, e101, hx101_0, hx101_1, hx101_2, hx101_3, hx101_4, hx101_5⟩ := at_T28 HR0.out x11_1 p101 q101
        cases e101
        replace hx101_0 := (HB.out.cell (World.block_lt_of_cell? w _ hx101_0)).trans hx101_0
        replace hx101_1 := (HB.out.cell (World.block_lt_of_cell? w _ hx101_1)).trans hx101_1
        replace hx101_2 := (HB.out.cell (World.block_lt_of_cell? w _ hx101_2)).trans hx101_2
        replace hx101_3 := (HB.out.cell (World.block_lt_of_cell? w _ hx101_3)).trans hx101_3
        replace hx101_4 := (HB.out.cell (World.block_lt_of_cell? w _ hx101_4)).trans hx101_4
        replace hx101_5 := (HB.out.cell (World.block_lt_of_cell? w _ hx101_5)).trans hx101_5
        replace p101 := eq_true p101
        replace q101 := eq_true q101
        go_wp2_with (first | ((with_reducible refine gate_dst (N := 7) rfl ?_); refine box_event ?hg (N := 7) ?hd (cs := #[.int .i64 0, .int .i64 0, .int .i64 0, .int .i64 0, .int .i64 0, .string (⟨#[]⟩ : ByteArray)]) (t := 28) ?hr ?_; (case hd => rfl); (case hg => rfl); (case hr => first | (go_simp; done) | (go_simp; rfl)); intro gb102 hg w108 hbox hb; replace HO_4 := Aside0.mk (Kd.R_below (qR HO_4.out) hb); have BK102 := Aside0.mk (hbox); have GW102 := Aside0.mk ((by rw [hg]; exact (below_size (qB HB.out)) : w.heap.size ≤ gb102)); have GE102 := Aside0.mk ((by rw [hg]; exact (below_size (qB HB.out)) : w.heap.size ≤ gb102)); replace HB := Aside0.mk (below_step (qB HB.out) hb); clear hb hbox hg; obtain ⟨hcz109_0, hcz109_1, hcz109_2, hcz109_3, hcz109_4, hcz109_5, hfz109_0, hfz109_1, hfz109_2, hfz109_3, hfz109_4, hfz109_5⟩ := blk6 BK102.out) | ((with_reducible refine gate_callee (f := 35) rfl ?_); refine goesL_ (some 16) rfl rfl Try.func35 (by kernel_rfl) rfl #[.agg #[.int .i64 ((rd_T28 l0 x11_1).f0), .int .i64 ((rd_T28 l0 x11_1).f1), .int .i64 ((rd_T28 l0 x11_1).f2), .int .i64 ((rd_T28 l0 x11_1).f3), .int .i64 ((rd_T28 l0 x11_1).f4), .string ((rd_T28 l0 x11_1).f5)]] rfl (by (try simp only [List.map_toArray, List.map_cons, List.map_nil]); first | done | rfl | (simp only [List.length_drop, List.length_take]; rfl)) ?_; (with_reducible refine (wire_Right.calls k1 ((rd_T28 l0 x11_1).f0) ((rd_T28 l0 x11_1).f1) ((rd_T28 l0 x11_1).f2) ((rd_T28 l0 x11_1).f3) ((rd_T28 l0 x11_1).f4) ((rd_T28 l0 x11_1).f5) false _ A5.out).mono ?_); rintro e w110 ⟨rfl, hb⟩; refine ⟨_, rfl, ?_⟩; replace HO_4 := Aside0.mk (Kd.R_below (by (with_reducible repeat (first | apply Kd.R_alloc | apply Kd.R_drewN | apply Kd.R_drew)); exact (Kd.R_mono (Kd.R_far (p := ⟨gb102, 5, none⟩) (Kd.R_far (p := ⟨gb102, 4, none⟩) (Kd.R_far (p := ⟨gb102, 3, none⟩) (Kd.R_far (p := ⟨gb102, 2, none⟩) (Kd.R_far (p := ⟨gb102, 1, none⟩) (Kd.R_far (p := ⟨gb102, 0, none⟩) (Kd.R_types HO_4.out BK102.out (by decide)) (fun _ hk => hk.2) (.int .i64 ((rd_T28 l0 x11_1).f0))) (fun _ hk => hk.2) (.int .i64 ((rd_T28 l0 x11_1).f1))) (fun _ hk => hk.2) (.int .i64 ((rd_T28 l0 x11_1).f2))) (fun _ hk => hk.2) (.int .i64 ((rd_T28 l0 x11_1).f3))) (fun _ hk => hk.2) (.int .i64 ((rd_T28 l0 x11_1).f4))) (fun _ hk => hk.2) (.string ((rd_T28 l0 x11_1).f5))) (fun _ h_ => h_.1))) hb); replace BK102 := Aside0.mk (blk_below (g := gb102) (o := .cells #[.int .i64 ((rd_T28 l0 x11_1).f0), .int .i64 ((rd_T28 l0 x11_1).f1), .int .i64 ((rd_T28 l0 x11_1).f2), .int .i64 ((rd_T28 l0 x11_1).f3), .int .i64 ((rd_T28 l0 x11_1).f4), .string ((rd_T28 l0 x11_1).f5)] 28 (0, 0)) (by refine bq ?_; refine blk_put (cs := #[.int .i64 ((rd_T28 l0 x11_1).f0), .int .i64 ((rd_T28 l0 x11_1).f1), .int .i64 ((rd_T28 l0 x11_1).f2), .int .i64 ((rd_T28 l0 x11_1).f3), .int .i64 ((rd_T28 l0 x11_1).f4), .string (⟨#[]⟩ : ByteArray)]) ?_ 5 _ rfl; refine bq ?_; refine blk_put (cs := #[.int .i64 ((rd_T28 l0 x11_1).f0), .int .i64 ((rd_T28 l0 x11_1).f1), .int .i64 ((rd_T28 l0 x11_1).f2), .int .i64 ((rd_T28 l0 x11_1).f3), .int .i64 0, .string (⟨#[]⟩ : ByteArray)]) ?_ 4 _ rfl; refine bq ?_; refine blk_put (cs := #[.int .i64 ((rd_T28 l0 x11_1).f0), .int .i64 ((rd_T28 l0 x11_1).f1), .int .i64 ((rd_T28 l0 x11_1).f2), .int .i64 0, .int .i64 0, .string (⟨#[]⟩ : ByteArray)]) ?_ 3 _ rfl; refine bq ?_; refine blk_put (cs := #[.int .i64 ((rd_T28 l0 x11_1).f0), .int .i64 ((rd_T28 l0 x11_1).f1), .int .i64 0, .int .i64 0, .int .i64 0, .string (⟨#[]⟩ : ByteArray)]) ?_ 2 _ rfl; refine bq ?_; refine blk_put (cs := #[.int .i64 ((rd_T28 l0 x11_1).f0), .int .i64 0, .int .i64 0, .int .i64 0, .int .i64 0, .string (⟨#[]⟩ : ByteArray)]) ?_ 1 _ rfl; refine bq ?_; refine blk_put (cs := #[.int .i64 0, .int .i64 0, .int .i64 0, .int .i64 0, .int .i64 0, .string (⟨#[]⟩ : ByteArray)]) ?_ 0 _ rfl; exact bq BK102.out) hb); replace HB := Aside0.mk (below_step (qS1 GE102 HB.out) hb); (try clear hb); (try clear hb2); (try clear hk); (try clear hi)))
        go_ret2
        exact ⟨by first | rfl | (simp [errW_none, errW_some] <;> rfl) | (simp [*, errW_none, errW_some] <;> rfl), qS1 GE102 HB.out⟩
      subst c6
      have H1 : ((wire_number.f ((rd_T28 l0 x11_1).f0)).bind fun t104 => (if x4_1.length + t104.length < 140737488355328 then ((some (x4_1 ++ t104 : List Int)).bind fun y107 => (if ((rd_T28 l0 x11_1).f1) = 16 then (if y107.length < 140737488355328 then ((some (y107 ++ [255] : List Int)).bind fun y110 => (if y110.length < 140737488355328 then ((some (y110 ++ [((rd_T28 l0 x11_1).f3) % 256] : List Int)).bind fun y113 => ((wire_number.f (((rd_T28 l0 x11_1).f5).size : Int)).bind fun t116 => (if y113.length + t116.length < 140737488355328 then ((some (y113 ++ t116 : List Int)).bind fun y119 => (if y119.length + ((rd_T28 l0 x11_1).f5).size < 140737488355328 then (wire_Encode.l0 k1 (y119 ++ bytesOf ((rd_T28 l0 x11_1).f5)) 0 l0 (l0.length : Int) (wrap64 (x11_1 + 1))) else (none))) else (none)))) else (none))) else (none)) else (if ((rd_T28 l0 x11_1).f1) = 15 then (if y107.length < 140737488355328 then ((some (y107 ++ [((rd_T28 l0 x11_1).f3) % 256] : List Int)).bind fun y125 => ((wire_number.f (((rd_T28 l0 x11_1).f5).size : Int)).bind fun t128 => (if y125.length + t128.length < 140737488355328 then ((some (y125 ++ t128 : List Int)).bind fun y131 => (if y131.length + ((rd_T28 l0 x11_1).f5).size < 140737488355328 then (wire_Encode.l0 k1 (y131 ++ bytesOf ((rd_T28 l0 x11_1).f5)) 0 l0 (l0.length : Int) (wrap64 (x11_1 + 1))) else (none))) else (none)))) else (none)) else (if (wrap64 ((wrap64 (16 * ((rd_T28 l0 x11_1).f1))) + ((rd_T28 l0 x11_1).f2))) = x5_1 then (if y107.length < 140737488355328 then ((some (y107 ++ [((rd_T28 l0 x11_1).f3) % 256] : List Int)).bind fun y137 => ((wire_one.f ((rd_T28 l0 x11_1).f1)).bind fun t140 => (if t140 = true then (wire_Encode.l0 k1 y137 (wrap64 ((wrap64 (16 * ((rd_T28 l0 x11_1).f1))) + ((rd_T28 l0 x11_1).f2))) l0 (l0.length : Int) (wrap64 (x11_1 + 1))) else (if y137.length < 140737488355328 then (wire_Encode.l0 k1 (y137 ++ [((rd_T28 l0 x11_1).f4) % 256]) (wrap64 ((wrap64 (16 * ((rd_T28 l0 x11_1).f1))) + ((rd_T28 l0 x11_1).f2))) l0 (l0.length : Int) (wrap64 (x11_1 + 1))) else (none))))) else (none)) else (if y107.length < 140737488355328 then ((some (y107 ++ [(wrap64 ((wrap64 (16 * ((rd_T28 l0 x11_1).f1))) + ((rd_T28 l0 x11_1).f2))) % 256] : List Int)).bind fun y144 => (if y144.length < 140737488355328 then ((some (y144 ++ [((rd_T28 l0 x11_1).f3) % 256] : List Int)).bind fun y147 => ((wire_one.f ((rd_T28 l0 x11_1).f1)).bind fun t150 => (if t150 = true then (wire_Encode.l0 k1 y147 (wrap64 ((wrap64 (16 * ((rd_T28 l0 x11_1).f1))) + ((rd_T28 l0 x11_1).f2))) l0 (l0.length : Int) (wrap64 (x11_1 + 1))) else (if y147.length < 140737488355328 then (wire_Encode.l0 k1 (y147 ++ [((rd_T28 l0 x11_1).f4) % 256]) (wrap64 ((wrap64 (16 * ((rd_T28 l0 x11_1).f1))) + ((rd_T28 l0 x11_1).f2))) l0 (l0.length : Int) (wrap64 (x11_1 + 1))) else (none))))) else (none))) else (none)))))) else (none))) = some (r1, r2) := by rw [if_pos rfl] at H; exact H
      clear H
      have H := H1
      clear H1
      replace H := Option.bind_eq_some_iff.mp H
      obtain ⟨t104, A70, H⟩ := H
      replace H : (if x4_1.length + t104.length < 140737488355328 then ((some (x4_1 ++ t104 : List Int)).bind fun y107 => (if ((rd_T28 l0 x11_1).f1) = 16 then (if y107.length < 140737488355328 then ((some (y107 ++ [255] : List Int)).bind fun y110 => (if y110.length < 140737488355328 then ((some (y110 ++ [((rd_T28 l0 x11_1).f3) % 256] : List Int)).bind fun y113 => ((wire_number.f (((rd_T28 l0 x11_1).f5).size : Int)).bind fun t116 => (if y113.length + t116.length < 140737488355328 then ((some (y113 ++ t116 : List Int)).bind fun y119 => (if y119.length + ((rd_T28 l0 x11_1).f5).size < 140737488355328 then (wire_Encode.l0 k1 (y119 ++ bytesOf ((rd_T28 l0 x11_1).f5)) 0 l0 (l0.length : Int) (wrap64 (x11_1 + 1))) else (none))) else (none)))) else (none))) else (none)) else (if ((rd_T28 l0 x11_1).f1) = 15 then (if y107.length < 140737488355328 then ((some (y107 ++ [((rd_T28 l0 x11_1).f3) % 256] : List Int)).bind fun y125 => ((wire_number.f (((rd_T28 l0 x11_1).f5).size : Int)).bind fun t128 => (if y125.length + t128.length < 140737488355328 then ((some (y125 ++ t128 : List Int)).bind fun y131 => (if y131.length + ((rd_T28 l0 x11_1).f5).size < 140737488355328 then (wire_Encode.l0 k1 (y131 ++ bytesOf ((rd_T28 l0 x11_1).f5)) 0 l0 (l0.length : Int) (wrap64 (x11_1 + 1))) else (none))) else (none)))) else (none)) else (if (wrap64 ((wrap64 (16 * ((rd_T28 l0 x11_1).f1))) + ((rd_T28 l0 x11_1).f2))) = x5_1 then (if y107.length < 140737488355328 then ((some (y107 ++ [((rd_T28 l0 x11_1).f3) % 256] : List Int)).bind fun y137 => ((wire_one.f ((rd_T28 l0 x11_1).f1)).bind fun t140 => (if t140 = true then (wire_Encode.l0 k1 y137 (wrap64 ((wrap64 (16 * ((rd_T28 l0 x11_1).f1))) + ((rd_T28 l0 x11_1).f2))) l0 (l0.length : Int) (wrap64 (x11_1 + 1))) else (if y137.length < 140737488355328 then (wire_Encode.l0 k1 (y137 ++ [((rd_T28 l0 x11_1).f4) % 256]) (wrap64 ((wrap64 (16 * ((rd_T28 l0 x11_1).f1))) + ((rd_T28 l0 x11_1).f2))) l0 (l0.length : Int) (wrap64 (x11_1 + 1))) else (none))))) else (none)) else (if y107.length < 140737488355328 then ((some (y107 ++ [(wrap64 ((wrap64 (16 * ((rd_T28 l0 x11_1).f1))) + ((rd_T28 l0 x11_1).f2))) % 256] : List Int)).bind fun y144 => (if y144.length < 140737488355328 then ((some (y144 ++ [((rd_T28 l0 x11_1).f3) % 256] : List Int)).bind fun y147 => ((wire_one.f ((rd_T28 l0 x11_1).f1)).bind fun t150 => (if t150 = true then (wire_Encode.l0 k1 y147 (wrap64 ((wrap64 (16 * ((rd_T28 l0 x11_1).f1))) + ((rd_T28 l0 x11_1).f2))) l0 (l0.length : Int) (wrap64 (x11_1 + 1))) else (if y147.length < 140737488355328 then (wire_Encode.l0 k1 (y147 ++ [((rd_T28 l0 x11_1).f4) % 256]) (wrap64 ((wrap64 (16 * ((rd_T28 l0 x11_1).f1))) + ((rd_T28 l0 x11_1).f2))) l0 (l0.length : Int) (wrap64 (x11_1 + 1))) else (none))))) else (none))) else (none)))))) else (none)) = some (r1, r2) := H
      have A7 := Aside0.mk A70
      clear A70
      by_cases c8 : x4_1.length + t104.length < 140737488355328
      rotate_left
      · rw [if_neg c8] at H
        exact absurd H (by simp)
      rw [if_pos c8] at H
      have LMc8 := Aside0.mk c8
      clear c8
      obtain ⟨y107, hy107⟩ : ∃ y_ : List Int, y_ = (x4_1 ++ t104) := ⟨_, rfl⟩
      replace H : (if ((rd_T28 l0 x11_1).f1) = 16 then (if y107.length < 140737488355328 then ((some (y107 ++ [255] : List Int)).bind fun y110 => (if y110.length < 140737488355328 then ((some (y110 ++ [((rd_T28 l0 x11_1).f3) % 256] : List Int)).bind fun y113 => ((wire_number.f (((rd_T28 l0 x11_1).f5).size : Int)).bind fun t116 => (if y113.length + t116.length < 140737488355328 then ((some (y113 ++ t116 : List Int)).bind fun y119 => (if y119.length + ((rd_T28 l0 x11_1).f5).size < 140737488355328 then (wire_Encode.l0 k1 (y119 ++ bytesOf ((rd_T28 l0 x11_1).f5)) 0 l0 (l0.length : Int) (wrap64 (x11_1 + 1))) else (none))) else (none)))) else (none))) else (none)) else (if ((rd_T28 l0 x11_1).f1) = 15 then (if y107.length < 140737488355328 then ((some (y107 ++ [((rd_T28 l0 x11_1).f3) % 256] : List Int)).bind fun y125 => ((wire_number.f (((rd_T28 l0 x11_1).f5).size : Int)).bind fun t128 => (if y125.length + t128.length < 140737488355328 then ((some (y125 ++ t128 : List Int)).bind fun y131 => (if y131.length + ((rd_T28 l0 x11_1).f5).size < 140737488355328 then (wire_Encode.l0 k1 (y131 ++ bytesOf ((rd_T28 l0 x11_1).f5)) 0 l0 (l0.length : Int) (wrap64 (x11_1 + 1))) else (none))) else (none)))) else (none)) else (if (wrap64 ((wrap64 (16 * ((rd_T28 l0 x11_1).f1))) + ((rd_T28 l0 x11_1).f2))) = x5_1 then (if y107.length < 140737488355328 then ((some (y107 ++ [((rd_T28 l0 x11_1).f3) % 256] : List Int)).bind fun y137 => ((wire_one.f ((rd_T28 l0 x11_1).f1)).bind fun t140 => (if t140 = true then (wire_Encode.l0 k1 y137 (wrap64 ((wrap64 (16 * ((rd_T28 l0 x11_1).f1))) + ((rd_T28 l0 x11_1).f2))) l0 (l0.length : Int) (wrap64 (x11_1 + 1))) else (if y137.length < 140737488355328 then (wire_Encode.l0 k1 (y137 ++ [((rd_T28 l0 x11_1).f4) % 256]) (wrap64 ((wrap64 (16 * ((rd_T28 l0 x11_1).f1))) + ((rd_T28 l0 x11_1).f2))) l0 (l0.length : Int) (wrap64 (x11_1 + 1))) else (none))))) else (none)) else (if y107.length < 140737488355328 then ((some (y107 ++ [(wrap64 ((wrap64 (16 * ((rd_T28 l0 x11_1).f1))) + ((rd_T28 l0 x11_1).f2))) % 256] : List Int)).bind fun y144 => (if y144.length < 140737488355328 then ((some (y144 ++ [((rd_T28 l0 x11_1).f3) % 256] : List Int)).bind fun y147 => ((wire_one.f ((rd_T28 l0 x11_1).f1)).bind fun t150 => (if t150 = true then (wire_Encode.l0 k1 y147 (wrap64 ((wrap64 (16 * ((rd_T28 l0 x11_1).f1))) + ((rd_T28 l0 x11_1).f2))) l0 (l0.length : Int) (wrap64 (x11_1 + 1))) else (if y147.length < 140737488355328 then (wire_Encode.l0 k1 (y147 ++ [((rd_T28 l0 x11_1).f4) % 256]) (wrap64 ((wrap64 (16 * ((rd_T28 l0 x11_1).f1))) + ((rd_T28 l0 x11_1).f2))) l0 (l0.length : Int) (wrap64 (x11_1 + 1))) else (none))))) else (none))) else (none))))) = some (r1, r2) := by first | (rw [hy107]; with_reducible exact H) | (have H2_ := (Option.bind_some _ _).symm.trans H; rw [hy107]; with_reducible exact H2_) | (have H2_ := (Option.bind_some _ _).symm.trans H; with_reducible exact H2_) | with_reducible exact H | (rw [hy107]; exact H) | exact H
      have Ny107 := Aside0.mk hy107
      clear hy107
      by_cases c9 : ((rd_T28 l0 x11_1).f1) = 16
      · rw [if_pos c9] at H
        have c9b0 : (((rd_T28 l0 x11_1).f1) == 16) = true := beq_iff_eq.mpr c9
        have c9b1 : (((rd_T28 l0 x11_1).f1) != 16) = false := bne_eq_false_iff_eq.mpr c9
        clear c9
        by_cases c10 : y107.length < 140737488355328
        rotate_left
        · rw [if_neg c10] at H
          exact absurd H (by simp)
        rw [if_pos c10] at H
        have LMc10 := Aside0.mk c10
        clear c10
        obtain ⟨y110, hy110⟩ : ∃ y_ : List Int, y_ = (y107 ++ [255]) := ⟨_, rfl⟩
        replace H : (if y110.length < 140737488355328 then ((some (y110 ++ [((rd_T28 l0 x11_1).f3) % 256] : List Int)).bind fun y113 => ((wire_number.f (((rd_T28 l0 x11_1).f5).size : Int)).bind fun t116 => (if y113.length + t116.length < 140737488355328 then ((some (y113 ++ t116 : List Int)).bind fun y119 => (if y119.length + ((rd_T28 l0 x11_1).f5).size < 140737488355328 then (wire_Encode.l0 k1 (y119 ++ bytesOf ((rd_T28 l0 x11_1).f5)) 0 l0 (l0.length : Int) (wrap64 (x11_1 + 1))) else (none))) else (none)))) else (none)) = some (r1, r2) := by first | (rw [hy110]; with_reducible exact H) | (have H2_ := (Option.bind_some _ _).symm.trans H; rw [hy110]; with_reducible exact H2_) | (have H2_ := (Option.bind_some _ _).symm.trans H; with_reducible exact H2_) | with_reducible exact H | (rw [hy110]; exact H) | exact H
        have Ny110 := Aside0.mk hy110
        clear hy110
        by_cases c11 : y110.length < 140737488355328
        rotate_left
        · rw [if_neg c11] at H
          exact absurd H (by simp)
        rw [if_pos c11] at H
        have LMc11 := Aside0.mk c11
        clear c11
        obtain ⟨y113, hy113⟩ : ∃ y_ : List Int, y_ = (y110 ++ [((rd_T28 l0 x11_1).f3) % 256]) := ⟨_, rfl⟩
        replace H : ((wire_number.f (((rd_T28 l0 x11_1).f5).size : Int)).bind fun t116 => (if y113.length + t116.length < 140737488355328 then ((some (y113 ++ t116 : List Int)).bind fun y119 => (if y119.length + ((rd_T28 l0 x11_1).f5).size < 140737488355328 then (wire_Encode.l0 k1 (y119 ++ bytesOf ((rd_T28 l0 x11_1).f5)) 0 l0 (l0.length : Int) (wrap64 (x11_1 + 1))) else (none))) else (none))) = some (r1, r2) := by first | (rw [hy113]; with_reducible exact H) | (have H2_ := (Option.bind_some _ _).symm.trans H; rw [hy113]; with_reducible exact H2_) | (have H2_ := (Option.bind_some _ _).symm.trans H; with_reducible exact H2_) | with_reducible exact H | (rw [hy113]; exact H) | exact H
        have Ny113 := Aside0.mk hy113
        clear hy113
        replace H := Option.bind_eq_some_iff.mp H
        obtain ⟨t116, A120, H⟩ := H
        replace H : (if y113.length + t116.length < 140737488355328 then ((some (y113 ++ t116 : List Int)).bind fun y119 => (if y119.length + ((rd_T28 l0 x11_1).f5).size < 140737488355328 then (wire_Encode.l0 k1 (y119 ++ bytesOf ((rd_T28 l0 x11_1).f5)) 0 l0 (l0.length : Int) (wrap64 (x11_1 + 1))) else (none))) else (none)) = some (r1, r2) := H
        have A12 := Aside0.mk A120
        clear A120
        by_cases c13 : y113.length + t116.length < 140737488355328
        rotate_left
        · rw [if_neg c13] at H
          exact absurd H (by simp)
        rw [if_pos c13] at H
        have LMc13 := Aside0.mk c13
        clear c13
        obtain ⟨y119, hy119⟩ : ∃ y_ : List Int, y_ = (y113 ++ t116) := ⟨_, rfl⟩
        replace H : (if y119.length + ((rd_T28 l0 x11_1).f5).size < 140737488355328 then (wire_Encode.l0 k1 (y119 ++ bytesOf ((rd_T28 l0 x11_1).f5)) 0 l0 (l0.length : Int) (wrap64 (x11_1 + 1))) else (none)) = some (r1, r2) := by first | (rw [hy119]; with_reducible exact H) | (have H2_ := (Option.bind_some _ _).symm.trans H; rw [hy119]; with_reducible exact H2_) | (have H2_ := (Option.bind_some _ _).symm.trans H; with_reducible exact H2_) | with_reducible exact H | (rw [hy119]; exact H) | exact H
        have Ny119 := Aside0.mk hy119
        clear hy119
        by_cases c14 : y119.length + ((rd_T28 l0 x11_1).f5).size < 140737488355328
        rotate_left
        · rw [if_neg c14] at H
          exact absurd H (by simp)
        rw [if_pos c14] at H
        have LMc14 := Aside0.mk c14
        clear c14
        obtain ⟨y122, hy122⟩ : ∃ y_ : List Int, y_ = (y119 ++ bytesOf ((rd_T28 l0 x11_1).f5)) := ⟨_, rfl⟩
        replace H : (wire_Encode.l0 k1 y122 0 l0 (l0.length : Int) (wrap64 (x11_1 + 1))) = some (r1, r2) := by first | (rw [hy122]; with_reducible exact H) | (have H2_ := (Option.bind_some _ _).symm.trans H; rw [hy122]; with_reducible exact H2_) | (have H2_ := (Option.bind_some _ _).symm.trans H; with_reducible exact H2_) | with_reducible exact H | (rw [hy122]; exact H) | exact H
        have Ny122 := Aside0.mk hy122
        clear hy122
        have H' := Aside0.mk H
        clear H
        have p101 : 0 ≤ (x11_1 : Int) := of_decide_eq_true (by first | (with_reducible assumption) | assumption)
        have q101 : x11_1 < (l0.length : Int) := of_decide_eq_true (by first | (with_reducible assumption) | assumption)
        obtain ⟨ad101, e101, hx101_0, hx101_1, hx101_2, hx101_3, hx101_4, hx101_5⟩ := at_T28 HR0.out x11_1 p101 q101
        cases e101
        replace hx101_0 := (HB.out.cell (World.block_lt_of_cell? w _ hx101_0)).trans hx101_0
        replace hx101_1 := (HB.out.cell (World.block_lt_of_cell? w _ hx101_1)).trans hx101_1
        replace hx101_2 := (HB.out.cell (World.block_lt_of_cell? w _ hx101_2)).trans hx101_2
        replace hx101_3 := (HB.out.cell (World.block_lt_of_cell? w _ hx101_3)).trans hx101_3
        replace hx101_4 := (HB.out.cell (World.block_lt_of_cell? w _ hx101_4)).trans hx101_4
        replace hx101_5 := (HB.out.cell (World.block_lt_of_cell? w _ hx101_5)).trans hx101_5
        replace p101 := eq_true p101
        replace q101 := eq_true q101
        go_wp2_with (first | ((with_reducible refine gate_dst (N := 7) rfl ?_); refine box_event ?hg (N := 7) ?hd (cs := #[.int .i64 0, .int .i64 0, .int .i64 0, .int .i64 0, .int .i64 0, .string (⟨#[]⟩ : ByteArray)]) (t := 28) ?hr ?_; (case hd => rfl); (case hg => rfl); (case hr => first | (go_simp; done) | (go_simp; rfl)); intro gb102 hg w15 hbox hb; replace HO_4 := Aside0.mk (Kd.R_below (qR HO_4.out) hb); have BK102 := Aside0.mk (hbox); have GW102 := Aside0.mk ((by rw [hg]; exact (below_size (qB HB.out)) : w.heap.size ≤ gb102)); have GE102 := Aside0.mk ((by rw [hg]; exact (below_size (qB HB.out)) : w.heap.size ≤ gb102)); replace HB := Aside0.mk (below_step (qB HB.out) hb); clear hb hbox hg; obtain ⟨hcz16_0, hcz16_1, hcz16_2, hcz16_3, hcz16_4, hcz16_5, hfz16_0, hfz16_1, hfz16_2, hfz16_3, hfz16_4, hfz16_5⟩ := blk6 BK102.out) | ((with_reducible refine gate_callee (f := 35) rfl ?_); refine goesL_ (some 16) rfl rfl Try.func35 (by kernel_rfl) rfl #[.agg #[.int .i64 ((rd_T28 l0 x11_1).f0), .int .i64 ((rd_T28 l0 x11_1).f1), .int .i64 ((rd_T28 l0 x11_1).f2), .int .i64 ((rd_T28 l0 x11_1).f3), .int .i64 ((rd_T28 l0 x11_1).f4), .string ((rd_T28 l0 x11_1).f5)]] rfl (by (try simp only [List.map_toArray, List.map_cons, List.map_nil]); first | done | rfl | (simp only [List.length_drop, List.length_take]; rfl)) ?_; (with_reducible refine (wire_Right.calls k1 ((rd_T28 l0 x11_1).f0) ((rd_T28 l0 x11_1).f1) ((rd_T28 l0 x11_1).f2) ((rd_T28 l0 x11_1).f3) ((rd_T28 l0 x11_1).f4) ((rd_T28 l0 x11_1).f5) true _ A5.out).mono ?_); rintro e w17 ⟨rfl, hb⟩; refine ⟨_, rfl, ?_⟩; replace HO_4 := Aside0.mk (Kd.R_below (by (with_reducible repeat (first | apply Kd.R_alloc | apply Kd.R_drewN | apply Kd.R_drew)); exact (Kd.R_mono (Kd.R_far (p := ⟨gb102, 5, none⟩) (Kd.R_far (p := ⟨gb102, 4, none⟩) (Kd.R_far (p := ⟨gb102, 3, none⟩) (Kd.R_far (p := ⟨gb102, 2, none⟩) (Kd.R_far (p := ⟨gb102, 1, none⟩) (Kd.R_far (p := ⟨gb102, 0, none⟩) (Kd.R_types HO_4.out BK102.out (by decide)) (fun _ hk => hk.2) (.int .i64 ((rd_T28 l0 x11_1).f0))) (fun _ hk => hk.2) (.int .i64 ((rd_T28 l0 x11_1).f1))) (fun _ hk => hk.2) (.int .i64 ((rd_T28 l0 x11_1).f2))) (fun _ hk => hk.2) (.int .i64 ((rd_T28 l0 x11_1).f3))) (fun _ hk => hk.2) (.int .i64 ((rd_T28 l0 x11_1).f4))) (fun _ hk => hk.2) (.string ((rd_T28 l0 x11_1).f5))) (fun _ h_ => h_.1))) hb); replace BK102 := Aside0.mk (blk_below (g := gb102) (o := .cells #[.int .i64 ((rd_T28 l0 x11_1).f0), .int .i64 ((rd_T28 l0 x11_1).f1), .int .i64 ((rd_T28 l0 x11_1).f2), .int .i64 ((rd_T28 l0 x11_1).f3), .int .i64 ((rd_T28 l0 x11_1).f4), .string ((rd_T28 l0 x11_1).f5)] 28 (0, 0)) (by refine bq ?_; refine blk_put (cs := #[.int .i64 ((rd_T28 l0 x11_1).f0), .int .i64 ((rd_T28 l0 x11_1).f1), .int .i64 ((rd_T28 l0 x11_1).f2), .int .i64 ((rd_T28 l0 x11_1).f3), .int .i64 ((rd_T28 l0 x11_1).f4), .string (⟨#[]⟩ : ByteArray)]) ?_ 5 _ rfl; refine bq ?_; refine blk_put (cs := #[.int .i64 ((rd_T28 l0 x11_1).f0), .int .i64 ((rd_T28 l0 x11_1).f1), .int .i64 ((rd_T28 l0 x11_1).f2), .int .i64 ((rd_T28 l0 x11_1).f3), .int .i64 0, .string (⟨#[]⟩ : ByteArray)]) ?_ 4 _ rfl; refine bq ?_; refine blk_put (cs := #[.int .i64 ((rd_T28 l0 x11_1).f0), .int .i64 ((rd_T28 l0 x11_1).f1), .int .i64 ((rd_T28 l0 x11_1).f2), .int .i64 0, .int .i64 0, .string (⟨#[]⟩ : ByteArray)]) ?_ 3 _ rfl; refine bq ?_; refine blk_put (cs := #[.int .i64 ((rd_T28 l0 x11_1).f0), .int .i64 ((rd_T28 l0 x11_1).f1), .int .i64 0, .int .i64 0, .int .i64 0, .string (⟨#[]⟩ : ByteArray)]) ?_ 2 _ rfl; refine bq ?_; refine blk_put (cs := #[.int .i64 ((rd_T28 l0 x11_1).f0), .int .i64 0, .int .i64 0, .int .i64 0, .int .i64 0, .string (⟨#[]⟩ : ByteArray)]) ?_ 1 _ rfl; refine bq ?_; refine blk_put (cs := #[.int .i64 0, .int .i64 0, .int .i64 0, .int .i64 0, .int .i64 0, .string (⟨#[]⟩ : ByteArray)]) ?_ 0 _ rfl; exact bq BK102.out) hb); replace HB := Aside0.mk (below_step (qS1 GE102 HB.out) hb); (try clear hb); (try clear hb2); (try clear hk); (try clear hi); obtain ⟨hcz18_0, hcz18_1, hcz18_2, hcz18_3, hcz18_4, hcz18_5, hfz18_0, hfz18_1, hfz18_2, hfz18_3, hfz18_4, hfz18_5⟩ := blk6 BK102.out) | ((with_reducible refine gate_callee (f := 36) rfl ?_); refine goesL_ (some 21) rfl rfl Try.func36 (by kernel_rfl) rfl #[.int .i64 ((rd_T28 l0 x11_1).f0)] rfl (by (try simp only [List.map_toArray, List.map_cons, List.map_nil]); first | done | rfl | (simp only [List.length_drop, List.length_take]; rfl)) ?_; (with_reducible refine (wire_number.calls ((rd_T28 l0 x11_1).f0) t104 _ A7.out).mono ?_); rintro e w19 ⟨v105, rfl, ho0, hb⟩; refine ⟨_, rfl, ?_⟩; have HO106 := Aside0.mk (Kd.R_lower (Kd.R_new' ho0 (Kd.R_lt (qR HO_4.out))) (below_size (qS1 GE102 HB.out))); replace HO_4 := Aside0.mk (Kd.R_elder' (qR HO_4.out) (Kd.R_base ho0) hb); replace BK102 := Aside0.mk (blk_below (bq BK102.out) hb); replace HB := Aside0.mk (below_step (qS1 GE102 HB.out) hb); (try clear hb); (try clear hb2); (try clear hk); (try clear hi); (try clear ho0); obtain ⟨Ao21, co21, eo21⟩ := Kd.R_slice HO106.out; subst eo21) | ((with_reducible refine gate_builtin (b := .append) (xs := #[.tmp 18, .tmp 21]) rfl ?_); at_builtin; refine Kd.R_append_rows (Kd.int .u8) (w0 := w) w.heap.size rfl (.tmp 18) (.tmp 21) 39 5 (.int .u8 0) 1 rfl Try.underlying39 info5 rfl (by decide) (by omega) u4 x4_1 t104 _ _ _ (fun k_ => some k_ ≠ (.slice Ao21 t104.length co21 : Value).ownBlock) (fun _ => False) rfl rfl ?aO ?aR (fun _ _ h => h) (fun _ h => h.elim) ?aF ?aB ?aS ?aL ?_; (case aR => repeat (first | exact (Kd.R_reads' HO106.out).2.2 | (with_reducible refine Kd.C_alloc ?_ _) | (with_reducible refine Kd.C_drewN ?_ _) | (with_reducible refine Kd.C_drew ?_))); (case aB => exact (qS1 GE102 HB.out)); (case aF => exact (fun k_ hk => Kd.fresh' (Kd.R_lt (qR HO106.out)) k_ hk)); (case aO => exact (by (with_reducible repeat (first | apply Kd.R_alloc | apply Kd.R_drewN | apply Kd.R_drew)); exact Kd.R_mono HO_4.out (fun _ hk => hk.2))); (case aS => exact (below_size (qS1 GE102 HB.out))); (case aL => have := LMc8.out; omega); intro v108 w20 ho hb hg hat; rw [← Ny107.out] at ho; replace BK102 := Aside0.mk (blk_grown (bq BK102.out) hg (Kd.R_ne HO_4.out BK102.out (by decide))); replace HO106 := Aside0.mk (Kd.R_after (ok := (fun _ => True)) (qR HO106.out) hg hat); replace HB := Aside0.mk (hb); have HO109 := Aside0.mk (ho); clear HO_4; clear ho hb hg hat; obtain ⟨hcz22_0, hcz22_1, hcz22_2, hcz22_3, hcz22_4, hcz22_5, hfz22_0, hfz22_1, hfz22_2, hfz22_3, hfz22_4, hfz22_5⟩ := blk6 BK102.out) | ((with_reducible refine gate_builtin (b := .append) (xs := #[.tmp 35, .tmp 36]) rfl ?_); at_builtin; refine Kd.R_append (Kd.int .u8) (w0 := w) w.heap.size rfl (.tmp 35) (.tmp 36) 39 5 (.int .u8 0) 1 rfl Try.underlying39 info5 rfl (by decide) (by omega) v108 y107 255 [.int .u8 255] (fun k_ => some k_ ≠ (.slice Ao21 t104.length co21 : Value).ownBlock) (fun _ => False) rfl rfl ?aP (fun _ hk => hk.elim) ?aF ?aO ?aB ?aS ?aL ?_; (case aP => exact rfl); (case aB => exact (qS1 GE102 HB.out)); (case aF => exact (fun k_ hk => Kd.fresh' (Kd.R_lt (qR HO106.out)) k_ hk)); (case aO => exact (qR HO109.out)); (case aS => exact (below_size (qS1 GE102 HB.out))); (case aL => have := LMc10.out; omega); intro v111 w23 ho hb hg hat; rw [← Ny110.out] at ho; replace BK102 := Aside0.mk (blk_grown (bq BK102.out) hg (Kd.R_ne HO109.out BK102.out (by decide))); replace HO106 := Aside0.mk (Kd.R_after (ok := (fun _ => True)) (qR HO106.out) hg hat); replace HB := Aside0.mk (hb); have HO112 := Aside0.mk (ho); clear HO109; clear ho hb hg hat; obtain ⟨hcz24_0, hcz24_1, hcz24_2, hcz24_3, hcz24_4, hcz24_5, hfz24_0, hfz24_1, hfz24_2, hfz24_3, hfz24_4, hfz24_5⟩ := blk6 BK102.out) | ((with_reducible refine gate_builtin (b := .append) (xs := #[.tmp 38, .tmp 42]) rfl ?_); at_builtin; refine Kd.R_append (Kd.int .u8) (w0 := w) w.heap.size rfl (.tmp 38) (.tmp 42) 39 5 (.int .u8 0) 1 rfl Try.underlying39 info5 rfl (by decide) (by omega) v111 y110 (((rd_T28 l0 x11_1).f3) % 256) [.int .u8 (((rd_T28 l0 x11_1).f3) % 256)] (fun k_ => some k_ ≠ (.slice Ao21 t104.length co21 : Value).ownBlock) (fun _ => False) rfl rfl ?aP (fun _ hk => hk.elim) ?aF ?aO ?aB ?aS ?aL ?_; (case aP => exact rfl); (case aB => exact (qS1 GE102 HB.out)); (case aF => exact (fun k_ hk => Kd.fresh' (Kd.R_lt (qR HO106.out)) k_ hk)); (case aO => exact (qR HO112.out)); (case aS => exact (below_size (qS1 GE102 HB.out))); (case aL => have := LMc11.out; omega); intro v114 w25 ho hb hg hat; rw [← Ny113.out] at ho; replace BK102 := Aside0.mk (blk_grown (bq BK102.out) hg (Kd.R_ne HO112.out BK102.out (by decide))); replace HO106 := Aside0.mk (Kd.R_after (ok := (fun _ => True)) (qR HO106.out) hg hat); replace HB := Aside0.mk (hb); have HO115 := Aside0.mk (ho); clear HO112; clear ho hb hg hat; obtain ⟨hcz26_0, hcz26_1, hcz26_2, hcz26_3, hcz26_4, hcz26_5, hfz26_0, hfz26_1, hfz26_2, hfz26_3, hfz26_4, hfz26_5⟩ := blk6 BK102.out) | ((with_reducible refine gate_callee (f := 36) rfl ?_); refine goesL_ (some 48) rfl rfl Try.func36 (by kernel_rfl) rfl #[.int .i64 (((rd_T28 l0 x11_1).f5).size : Int)] rfl (by (try simp only [List.map_toArray, List.map_cons, List.map_nil]); first | done | rfl | (simp only [List.length_drop, List.length_take]; rfl)) ?_; (with_reducible refine (wire_number.calls (((rd_T28 l0 x11_1).f5).size : Int) t116 _ A12.out).mono ?_); rintro e w27 ⟨v117, rfl, ho0, hb⟩; refine ⟨_, rfl, ?_⟩; have HO118 := Aside0.mk (Kd.R_lower (Kd.R_new' (Kd.R_new' ho0 (Kd.R_lt (qR HO106.out))) (Kd.R_lt (qR HO115.out))) (below_size (qS1 GE102 HB.out))); replace HO106 := Aside0.mk (Kd.R_elder' (qR HO106.out) (Kd.R_base ho0) hb); replace HO115 := Aside0.mk (Kd.R_elder' (qR HO115.out) (Kd.R_base ho0) hb); replace BK102 := Aside0.mk (blk_below (bq BK102.out) hb); replace HB := Aside0.mk (below_step (qS1 GE102 HB.out) hb); (try clear hb); (try clear hb2); (try clear hk); (try clear hi); (try clear ho0); obtain ⟨Ao29, co29, eo29⟩ := Kd.R_slice HO118.out; subst eo29) | ((with_reducible refine gate_builtin (b := .append) (xs := #[.tmp 44, .tmp 48]) rfl ?_); at_builtin; refine Kd.R_append_rows (Kd.int .u8) (w0 := w) w.heap.size rfl (.tmp 44) (.tmp 48) 39 5 (.int .u8 0) 1 rfl Try.underlying39 info5 rfl (by decide) (by omega) v114 y113 t116 _ _ _ (fun k_ => some k_ ≠ (.slice Ao21 t104.length co21 : Value).ownBlock ∧ some k_ ≠ (.slice Ao29 t116.length co29 : Value).ownBlock) (fun _ => False) rfl rfl ?aO ?aR (fun _ _ h => h) (fun _ h => h.elim) ?aF ?aB ?aS ?aL ?_; (case aR => repeat (first | exact (Kd.R_reads' HO118.out).2.2 | (with_reducible refine Kd.C_alloc ?_ _) | (with_reducible refine Kd.C_drewN ?_ _) | (with_reducible refine Kd.C_drew ?_))); (case aB => exact (qS1 GE102 HB.out)); (case aF => exact (fun k_ hk => ⟨Kd.fresh' (Kd.R_lt (qR HO106.out)) k_ hk, Kd.fresh' (Kd.R_lt (qR HO118.out)) k_ hk⟩)); (case aO => exact (qR HO115.out)); (case aS => exact (below_size (qS1 GE102 HB.out))); (case aL => have := LMc13.out; omega); intro v120 w28 ho hb hg hat; rw [← Ny119.out] at ho; replace BK102 := Aside0.mk (blk_grown (bq BK102.out) hg (Kd.R_ne HO115.out BK102.out (by decide))); replace HO106 := Aside0.mk (Kd.R_after (ok := (fun k_ => some k_ ≠ (.slice Ao29 t116.length co29 : Value).ownBlock)) (by (with_reducible repeat (first | apply Kd.R_alloc | apply Kd.R_drewN | apply Kd.R_drew)); exact Kd.R_mono HO106.out (fun _ hk => ⟨hk.2, hk.1.2⟩)) hg hat); replace HO118 := Aside0.mk (Kd.R_after (ok := (fun k_ => some k_ ≠ (.slice Ao21 t104.length co21 : Value).ownBlock)) (by (with_reducible repeat (first | apply Kd.R_alloc | apply Kd.R_drewN | apply Kd.R_drew)); exact Kd.R_mono HO118.out (fun _ hk => ⟨hk.1.2, hk.2⟩)) hg hat); replace HB := Aside0.mk (hb); have HO121 := Aside0.mk (ho); clear HO115; clear ho hb hg hat; obtain ⟨hcz30_0, hcz30_1, hcz30_2, hcz30_3, hcz30_4, hcz30_5, hfz30_0, hfz30_1, hfz30_2, hfz30_3, hfz30_4, hfz30_5⟩ := blk6 BK102.out) | (at_builtin; refine print_append_str (w0 := w) w.heap.size rfl (.tmp 50) _ 39 9 5 rfl Try.underlying39 Try.underlying9 info5 v120 y119 ((rd_T28 l0 x11_1).f5) rfl rfl ?aO ?aB ?aS ?aL ?_; (case aB => exact (qS1 GE102 HB.out)); (case aO => exact (Kd.own_of_R (by (with_reducible repeat (first | apply Kd.R_alloc | apply Kd.R_drewN | apply Kd.R_drew)); exact Kd.R_mono HO121.out (fun _ hk => trivial)))); (case aS => exact (below_size (qS1 GE102 HB.out))); (case aL => have := LMc14.out; omega); intro v123 w31 ho0 hb hg; have ho := Kd.R_of_own (h1 := fun _ => rfl) (ok := fun _ => True) ho0 (fun _ _ => trivial); clear ho0; have hat := True.intro; rw [← Ny122.out] at ho; change Kd.R (Kd.int .u8) 5 w31 w.heap.size (fun _ => True) v123 y122 at ho; replace BK102 := Aside0.mk (blk_grown (bq BK102.out) hg (Kd.R_ne HO121.out BK102.out (by decide))); replace HB := Aside0.mk (hb); have HO124 := Aside0.mk (ho); clear HO121; clear ho hb hg hat))
        go_roundg k1
        case measure => have := HK1.out; omega
        case rel => exact ⟨(y122), (0), (wrap64 (x11_1 + 1)), (by first | rfl | (simp; done) | (simp [*]; done)), (by first | rfl | (simp; done) | (simp [*]; done)), H', ⟨by have := HK1.out; omega⟩, ⟨qR HO124.out⟩, ⟨qS1 GE102 HB.out⟩⟩
      rw [if_neg c9] at H
      have c9b0 : (((rd_T28 l0 x11_1).f1) == 16) = false := beq_eq_false_iff_ne.mpr c9
      have c9b1 : (((rd_T28 l0 x11_1).f1) != 16) = true := bne_iff_ne.mpr c9
      by_cases c32 : ((rd_T28 l0 x11_1).f1) = 15
      · rw [if_pos c32] at H
        have c32b0 : (((rd_T28 l0 x11_1).f1) == 15) = true := beq_iff_eq.mpr c32
        have c32b1 : (((rd_T28 l0 x11_1).f1) != 15) = false := bne_eq_false_iff_eq.mpr c32
        clear c32
        by_cases c33 : y107.length < 140737488355328
        rotate_left
        · rw [if_neg c33] at H
          exact absurd H (by simp)
        rw [if_pos c33] at H
        have LMc33 := Aside0.mk c33
        clear c33
        obtain ⟨y125, hy125⟩ : ∃ y_ : List Int, y_ = (y107 ++ [((rd_T28 l0 x11_1).f3) % 256]) := ⟨_, rfl⟩
        replace H : ((wire_number.f (((rd_T28 l0 x11_1).f5).size : Int)).bind fun t128 => (if y125.length + t128.length < 140737488355328 then ((some (y125 ++ t128 : List Int)).bind fun y131 => (if y131.length + ((rd_T28 l0 x11_1).f5).size < 140737488355328 then (wire_Encode.l0 k1 (y131 ++ bytesOf ((rd_T28 l0 x11_1).f5)) 0 l0 (l0.length : Int) (wrap64 (x11_1 + 1))) else (none))) else (none))) = some (r1, r2) := by first | (rw [hy125]; with_reducible exact H) | (have H2_ := (Option.bind_some _ _).symm.trans H; rw [hy125]; with_reducible exact H2_) | (have H2_ := (Option.bind_some _ _).symm.trans H; with_reducible exact H2_) | with_reducible exact H | (rw [hy125]; exact H) | exact H
        have Ny125 := Aside0.mk hy125
        clear hy125
        replace H := Option.bind_eq_some_iff.mp H
        obtain ⟨t128, A340, H⟩ := H
        replace H : (if y125.length + t128.length < 140737488355328 then ((some (y125 ++ t128 : List Int)).bind fun y131 => (if y131.length + ((rd_T28 l0 x11_1).f5).size < 140737488355328 then (wire_Encode.l0 k1 (y131 ++ bytesOf ((rd_T28 l0 x11_1).f5)) 0 l0 (l0.length : Int) (wrap64 (x11_1 + 1))) else (none))) else (none)) = some (r1, r2) := H
        have A34 := Aside0.mk A340
        clear A340
        by_cases c35 : y125.length + t128.length < 140737488355328
        rotate_left
        · rw [if_neg c35] at H
          exact absurd H (by simp)
        rw [if_pos c35] at H
        have LMc35 := Aside0.mk c35
        clear c35
        obtain ⟨y131, hy131⟩ : ∃ y_ : List Int, y_ = (y125 ++ t128) := ⟨_, rfl⟩
        replace H : (if y131.length + ((rd_T28 l0 x11_1).f5).size < 140737488355328 then (wire_Encode.l0 k1 (y131 ++ bytesOf ((rd_T28 l0 x11_1).f5)) 0 l0 (l0.length : Int) (wrap64 (x11_1 + 1))) else (none)) = some (r1, r2) := by first | (rw [hy131]; with_reducible exact H) | (have H2_ := (Option.bind_some _ _).symm.trans H; rw [hy131]; with_reducible exact H2_) | (have H2_ := (Option.bind_some _ _).symm.trans H; with_reducible exact H2_) | with_reducible exact H | (rw [hy131]; exact H) | exact H
        have Ny131 := Aside0.mk hy131
        clear hy131
        by_cases c36 : y131.length + ((rd_T28 l0 x11_1).f5).size < 140737488355328
        rotate_left
        · rw [if_neg c36] at H
          exact absurd H (by simp)
        rw [if_pos c36] at H
        have LMc36 := Aside0.mk c36
        clear c36
        obtain ⟨y134, hy134⟩ : ∃ y_ : List Int, y_ = (y131 ++ bytesOf ((rd_T28 l0 x11_1).f5)) := ⟨_, rfl⟩
        replace H : (wire_Encode.l0 k1 y134 0 l0 (l0.length : Int) (wrap64 (x11_1 + 1))) = some (r1, r2) := by first | (rw [hy134]; with_reducible exact H) | (have H2_ := (Option.bind_some _ _).symm.trans H; rw [hy134]; with_reducible exact H2_) | (have H2_ := (Option.bind_some _ _).symm.trans H; with_reducible exact H2_) | with_reducible exact H | (rw [hy134]; exact H) | exact H
        have Ny134 := Aside0.mk hy134
        clear hy134
        have H' := Aside0.mk H
        clear H
        have p101 : 0 ≤ (x11_1 : Int) := of_decide_eq_true (by first | (with_reducible assumption) | assumption)
        have q101 : x11_1 < (l0.length : Int) := of_decide_eq_true (by first | (with_reducible assumption) | assumption)
        obtain ⟨ad101, e101, hx101_0, hx101_1, hx101_2, hx101_3, hx101_4, hx101_5⟩ := at_T28 HR0.out x11_1 p101 q101
        cases e101
        replace hx101_0 := (HB.out.cell (World.block_lt_of_cell? w _ hx101_0)).trans hx101_0
        replace hx101_1 := (HB.out.cell (World.block_lt_of_cell? w _ hx101_1)).trans hx101_1
        replace hx101_2 := (HB.out.cell (World.block_lt_of_cell? w _ hx101_2)).trans hx101_2
        replace hx101_3 := (HB.out.cell (World.block_lt_of_cell? w _ hx101_3)).trans hx101_3
        replace hx101_4 := (HB.out.cell (World.block_lt_of_cell? w _ hx101_4)).trans hx101_4
        replace hx101_5 := (HB.out.cell (World.block_lt_of_cell? w _ hx101_5)).trans hx101_5
        replace p101 := eq_true p101
        replace q101 := eq_true q101
        go_wp2_with (first | ((with_reducible refine gate_dst (N := 7) rfl ?_); refine box_event ?hg (N := 7) ?hd (cs := #[.int .i64 0, .int .i64 0, .int .i64 0, .int .i64 0, .int .i64 0, .string (⟨#[]⟩ : ByteArray)]) (t := 28) ?hr ?_; (case hd => rfl); (case hg => rfl); (case hr => first | (go_simp; done) | (go_simp; rfl)); intro gb102 hg w37 hbox hb; replace HO_4 := Aside0.mk (Kd.R_below (qR HO_4.out) hb); have BK102 := Aside0.mk (hbox); have GW102 := Aside0.mk ((by rw [hg]; exact (below_size (qB HB.out)) : w.heap.size ≤ gb102)); have GE102 := Aside0.mk ((by rw [hg]; exact (below_size (qB HB.out)) : w.heap.size ≤ gb102)); replace HB := Aside0.mk (below_step (qB HB.out) hb); clear hb hbox hg; obtain ⟨hcz38_0, hcz38_1, hcz38_2, hcz38_3, hcz38_4, hcz38_5, hfz38_0, hfz38_1, hfz38_2, hfz38_3, hfz38_4, hfz38_5⟩ := blk6 BK102.out) | ((with_reducible refine gate_callee (f := 35) rfl ?_); refine goesL_ (some 16) rfl rfl Try.func35 (by kernel_rfl) rfl #[.agg #[.int .i64 ((rd_T28 l0 x11_1).f0), .int .i64 ((rd_T28 l0 x11_1).f1), .int .i64 ((rd_T28 l0 x11_1).f2), .int .i64 ((rd_T28 l0 x11_1).f3), .int .i64 ((rd_T28 l0 x11_1).f4), .string ((rd_T28 l0 x11_1).f5)]] rfl (by (try simp only [List.map_toArray, List.map_cons, List.map_nil]); first | done | rfl | (simp only [List.length_drop, List.length_take]; rfl)) ?_; (with_reducible refine (wire_Right.calls k1 ((rd_T28 l0 x11_1).f0) ((rd_T28 l0 x11_1).f1) ((rd_T28 l0 x11_1).f2) ((rd_T28 l0 x11_1).f3) ((rd_T28 l0 x11_1).f4) ((rd_T28 l0 x11_1).f5) true _ A5.out).mono ?_); rintro e w39 ⟨rfl, hb⟩; refine ⟨_, rfl, ?_⟩; replace HO_4 := Aside0.mk (Kd.R_below (by (with_reducible repeat (first | apply Kd.R_alloc | apply Kd.R_drewN | apply Kd.R_drew)); exact (Kd.R_mono (Kd.R_far (p := ⟨gb102, 5, none⟩) (Kd.R_far (p := ⟨gb102, 4, none⟩) (Kd.R_far (p := ⟨gb102, 3, none⟩) (Kd.R_far (p := ⟨gb102, 2, none⟩) (Kd.R_far (p := ⟨gb102, 1, none⟩) (Kd.R_far (p := ⟨gb102, 0, none⟩) (Kd.R_types HO_4.out BK102.out (by decide)) (fun _ hk => hk.2) (.int .i64 ((rd_T28 l0 x11_1).f0))) (fun _ hk => hk.2) (.int .i64 ((rd_T28 l0 x11_1).f1))) (fun _ hk => hk.2) (.int .i64 ((rd_T28 l0 x11_1).f2))) (fun _ hk => hk.2) (.int .i64 ((rd_T28 l0 x11_1).f3))) (fun _ hk => hk.2) (.int .i64 ((rd_T28 l0 x11_1).f4))) (fun _ hk => hk.2) (.string ((rd_T28 l0 x11_1).f5))) (fun _ h_ => h_.1))) hb); replace BK102 := Aside0.mk (blk_below (g := gb102) (o := .cells #[.int .i64 ((rd_T28 l0 x11_1).f0), .int .i64 ((rd_T28 l0 x11_1).f1), .int .i64 ((rd_T28 l0 x11_1).f2), .int .i64 ((rd_T28 l0 x11_1).f3), .int .i64 ((rd_T28 l0 x11_1).f4), .string ((rd_T28 l0 x11_1).f5)] 28 (0, 0)) (by refine bq ?_; refine blk_put (cs := #[.int .i64 ((rd_T28 l0 x11_1).f0), .int .i64 ((rd_T28 l0 x11_1).f1), .int .i64 ((rd_T28 l0 x11_1).f2), .int .i64 ((rd_T28 l0 x11_1).f3), .int .i64 ((rd_T28 l0 x11_1).f4), .string (⟨#[]⟩ : ByteArray)]) ?_ 5 _ rfl; refine bq ?_; refine blk_put (cs := #[.int .i64 ((rd_T28 l0 x11_1).f0), .int .i64 ((rd_T28 l0 x11_1).f1), .int .i64 ((rd_T28 l0 x11_1).f2), .int .i64 ((rd_T28 l0 x11_1).f3), .int .i64 0, .string (⟨#[]⟩ : ByteArray)]) ?_ 4 _ rfl; refine bq ?_; refine blk_put (cs := #[.int .i64 ((rd_T28 l0 x11_1).f0), .int .i64 ((rd_T28 l0 x11_1).f1), .int .i64 ((rd_T28 l0 x11_1).f2), .int .i64 0, .int .i64 0, .string (⟨#[]⟩ : ByteArray)]) ?_ 3 _ rfl; refine bq ?_; refine blk_put (cs := #[.int .i64 ((rd_T28 l0 x11_1).f0), .int .i64 ((rd_T28 l0 x11_1).f1), .int .i64 0, .int .i64 0, .int .i64 0, .string (⟨#[]⟩ : ByteArray)]) ?_ 2 _ rfl; refine bq ?_; refine blk_put (cs := #[.int .i64 ((rd_T28 l0 x11_1).f0), .int .i64 0, .int .i64 0, .int .i64 0, .int .i64 0, .string (⟨#[]⟩ : ByteArray)]) ?_ 1 _ rfl; refine bq ?_; refine blk_put (cs := #[.int .i64 0, .int .i64 0, .int .i64 0, .int .i64 0, .int .i64 0, .string (⟨#[]⟩ : ByteArray)]) ?_ 0 _ rfl; exact bq BK102.out) hb); replace HB := Aside0.mk (below_step (qS1 GE102 HB.out) hb); (try clear hb); (try clear hb2); (try clear hk); (try clear hi); obtain ⟨hcz40_0, hcz40_1, hcz40_2, hcz40_3, hcz40_4, hcz40_5, hfz40_0, hfz40_1, hfz40_2, hfz40_3, hfz40_4, hfz40_5⟩ := blk6 BK102.out) | ((with_reducible refine gate_callee (f := 36) rfl ?_); refine goesL_ (some 21) rfl rfl Try.func36 (by kernel_rfl) rfl #[.int .i64 ((rd_T28 l0 x11_1).f0)] rfl (by (try simp only [List.map_toArray, List.map_cons, List.map_nil]); first | done | rfl | (simp only [List.length_drop, List.length_take]; rfl)) ?_; (with_reducible refine (wire_number.calls ((rd_T28 l0 x11_1).f0) t104 _ A7.out).mono ?_); rintro e w41 ⟨v105, rfl, ho0, hb⟩; refine ⟨_, rfl, ?_⟩; have HO106 := Aside0.mk (Kd.R_lower (Kd.R_new' ho0 (Kd.R_lt (qR HO_4.out))) (below_size (qS1 GE102 HB.out))); replace HO_4 := Aside0.mk (Kd.R_elder' (qR HO_4.out) (Kd.R_base ho0) hb); replace BK102 := Aside0.mk (blk_below (bq BK102.out) hb); replace HB := Aside0.mk (below_step (qS1 GE102 HB.out) hb); (try clear hb); (try clear hb2); (try clear hk); (try clear hi); (try clear ho0); obtain ⟨Ao43, co43, eo43⟩ := Kd.R_slice HO106.out; subst eo43) | ((with_reducible refine gate_builtin (b := .append) (xs := #[.tmp 18, .tmp 21]) rfl ?_); at_builtin; refine Kd.R_append_rows (Kd.int .u8) (w0 := w) w.heap.size rfl (.tmp 18) (.tmp 21) 39 5 (.int .u8 0) 1 rfl Try.underlying39 info5 rfl (by decide) (by omega) u4 x4_1 t104 _ _ _ (fun k_ => some k_ ≠ (.slice Ao43 t104.length co43 : Value).ownBlock) (fun _ => False) rfl rfl ?aO ?aR (fun _ _ h => h) (fun _ h => h.elim) ?aF ?aB ?aS ?aL ?_; (case aR => repeat (first | exact (Kd.R_reads' HO106.out).2.2 | (with_reducible refine Kd.C_alloc ?_ _) | (with_reducible refine Kd.C_drewN ?_ _) | (with_reducible refine Kd.C_drew ?_))); (case aB => exact (qS1 GE102 HB.out)); (case aF => exact (fun k_ hk => Kd.fresh' (Kd.R_lt (qR HO106.out)) k_ hk)); (case aO => exact (by (with_reducible repeat (first | apply Kd.R_alloc | apply Kd.R_drewN | apply Kd.R_drew)); exact Kd.R_mono HO_4.out (fun _ hk => hk.2))); (case aS => exact (below_size (qS1 GE102 HB.out))); (case aL => have := LMc8.out; omega); intro v108 w42 ho hb hg hat; rw [← Ny107.out] at ho; replace BK102 := Aside0.mk (blk_grown (bq BK102.out) hg (Kd.R_ne HO_4.out BK102.out (by decide))); replace HO106 := Aside0.mk (Kd.R_after (ok := (fun _ => True)) (qR HO106.out) hg hat); replace HB := Aside0.mk (hb); have HO109 := Aside0.mk (ho); clear HO_4; clear ho hb hg hat; obtain ⟨hcz44_0, hcz44_1, hcz44_2, hcz44_3, hcz44_4, hcz44_5, hfz44_0, hfz44_1, hfz44_2, hfz44_3, hfz44_4, hfz44_5⟩ := blk6 BK102.out) | ((with_reducible refine gate_builtin (b := .append) (xs := #[.tmp 38, .tmp 42]) rfl ?_); at_builtin; refine Kd.R_append (Kd.int .u8) (w0 := w) w.heap.size rfl (.tmp 38) (.tmp 42) 39 5 (.int .u8 0) 1 rfl Try.underlying39 info5 rfl (by decide) (by omega) v108 y107 (((rd_T28 l0 x11_1).f3) % 256) [.int .u8 (((rd_T28 l0 x11_1).f3) % 256)] (fun k_ => some k_ ≠ (.slice Ao43 t104.length co43 : Value).ownBlock) (fun _ => False) rfl rfl ?aP (fun _ hk => hk.elim) ?aF ?aO ?aB ?aS ?aL ?_; (case aP => exact rfl); (case aB => exact (qS1 GE102 HB.out)); (case aF => exact (fun k_ hk => Kd.fresh' (Kd.R_lt (qR HO106.out)) k_ hk)); (case aO => exact (qR HO109.out)); (case aS => exact (below_size (qS1 GE102 HB.out))); (case aL => have := LMc33.out; omega); intro v126 w45 ho hb hg hat; rw [← Ny125.out] at ho; replace BK102 := Aside0.mk (blk_grown (bq BK102.out) hg (Kd.R_ne HO109.out BK102.out (by decide))); replace HO106 := Aside0.mk (Kd.R_after (ok := (fun _ => True)) (qR HO106.out) hg hat); replace HB := Aside0.mk (hb); have HO127 := Aside0.mk (ho); clear HO109; clear ho hb hg hat; obtain ⟨hcz46_0, hcz46_1, hcz46_2, hcz46_3, hcz46_4, hcz46_5, hfz46_0, hfz46_1, hfz46_2, hfz46_3, hfz46_4, hfz46_5⟩ := blk6 BK102.out) | ((with_reducible refine gate_callee (f := 36) rfl ?_); refine goesL_ (some 48) rfl rfl Try.func36 (by kernel_rfl) rfl #[.int .i64 (((rd_T28 l0 x11_1).f5).size : Int)] rfl (by (try simp only [List.map_toArray, List.map_cons, List.map_nil]); first | done | rfl | (simp only [List.length_drop, List.length_take]; rfl)) ?_; (with_reducible refine (wire_number.calls (((rd_T28 l0 x11_1).f5).size : Int) t128 _ A34.out).mono ?_); rintro e w47 ⟨v129, rfl, ho0, hb⟩; refine ⟨_, rfl, ?_⟩; have HO130 := Aside0.mk (Kd.R_lower (Kd.R_new' (Kd.R_new' ho0 (Kd.R_lt (qR HO106.out))) (Kd.R_lt (qR HO127.out))) (below_size (qS1 GE102 HB.out))); replace HO106 := Aside0.mk (Kd.R_elder' (qR HO106.out) (Kd.R_base ho0) hb); replace HO127 := Aside0.mk (Kd.R_elder' (qR HO127.out) (Kd.R_base ho0) hb); replace BK102 := Aside0.mk (blk_below (bq BK102.out) hb); replace HB := Aside0.mk (below_step (qS1 GE102 HB.out) hb); (try clear hb); (try clear hb2); (try clear hk); (try clear hi); (try clear ho0); obtain ⟨Ao49, co49, eo49⟩ := Kd.R_slice HO130.out; subst eo49) | ((with_reducible refine gate_builtin (b := .append) (xs := #[.tmp 44, .tmp 48]) rfl ?_); at_builtin; refine Kd.R_append_rows (Kd.int .u8) (w0 := w) w.heap.size rfl (.tmp 44) (.tmp 48) 39 5 (.int .u8 0) 1 rfl Try.underlying39 info5 rfl (by decide) (by omega) v126 y125 t128 _ _ _ (fun k_ => some k_ ≠ (.slice Ao43 t104.length co43 : Value).ownBlock ∧ some k_ ≠ (.slice Ao49 t128.length co49 : Value).ownBlock) (fun _ => False) rfl rfl ?aO ?aR (fun _ _ h => h) (fun _ h => h.elim) ?aF ?aB ?aS ?aL ?_; (case aR => repeat (first | exact (Kd.R_reads' HO130.out).2.2 | (with_reducible refine Kd.C_alloc ?_ _) | (with_reducible refine Kd.C_drewN ?_ _) | (with_reducible refine Kd.C_drew ?_))); (case aB => exact (qS1 GE102 HB.out)); (case aF => exact (fun k_ hk => ⟨Kd.fresh' (Kd.R_lt (qR HO106.out)) k_ hk, Kd.fresh' (Kd.R_lt (qR HO130.out)) k_ hk⟩)); (case aO => exact (qR HO127.out)); (case aS => exact (below_size (qS1 GE102 HB.out))); (case aL => have := LMc35.out; omega); intro v132 w48 ho hb hg hat; rw [← Ny131.out] at ho; replace BK102 := Aside0.mk (blk_grown (bq BK102.out) hg (Kd.R_ne HO127.out BK102.out (by decide))); replace HO106 := Aside0.mk (Kd.R_after (ok := (fun k_ => some k_ ≠ (.slice Ao49 t128.length co49 : Value).ownBlock)) (by (with_reducible repeat (first | apply Kd.R_alloc | apply Kd.R_drewN | apply Kd.R_drew)); exact Kd.R_mono HO106.out (fun _ hk => ⟨hk.2, hk.1.2⟩)) hg hat); replace HO130 := Aside0.mk (Kd.R_after (ok := (fun k_ => some k_ ≠ (.slice Ao43 t104.length co43 : Value).ownBlock)) (by (with_reducible repeat (first | apply Kd.R_alloc | apply Kd.R_drewN | apply Kd.R_drew)); exact Kd.R_mono HO130.out (fun _ hk => ⟨hk.1.2, hk.2⟩)) hg hat); replace HB := Aside0.mk (hb); have HO133 := Aside0.mk (ho); clear HO127; clear ho hb hg hat; obtain ⟨hcz50_0, hcz50_1, hcz50_2, hcz50_3, hcz50_4, hcz50_5, hfz50_0, hfz50_1, hfz50_2, hfz50_3, hfz50_4, hfz50_5⟩ := blk6 BK102.out) | (at_builtin; refine print_append_str (w0 := w) w.heap.size rfl (.tmp 50) _ 39 9 5 rfl Try.underlying39 Try.underlying9 info5 v132 y131 ((rd_T28 l0 x11_1).f5) rfl rfl ?aO ?aB ?aS ?aL ?_; (case aB => exact (qS1 GE102 HB.out)); (case aO => exact (Kd.own_of_R (by (with_reducible repeat (first | apply Kd.R_alloc | apply Kd.R_drewN | apply Kd.R_drew)); exact Kd.R_mono HO133.out (fun _ hk => trivial)))); (case aS => exact (below_size (qS1 GE102 HB.out))); (case aL => have := LMc36.out; omega); intro v135 w51 ho0 hb hg; have ho := Kd.R_of_own (h1 := fun _ => rfl) (ok := fun _ => True) ho0 (fun _ _ => trivial); clear ho0; have hat := True.intro; rw [← Ny134.out] at ho; change Kd.R (Kd.int .u8) 5 w51 w.heap.size (fun _ => True) v135 y134 at ho; replace BK102 := Aside0.mk (blk_grown (bq BK102.out) hg (Kd.R_ne HO133.out BK102.out (by decide))); replace HB := Aside0.mk (hb); have HO136 := Aside0.mk (ho); clear HO133; clear ho hb hg hat))
        go_roundg k1
        case measure => have := HK1.out; omega
        case rel => exact ⟨(y134), (0), (wrap64 (x11_1 + 1)), (by first | rfl | (simp; done) | (simp [*]; done)), (by first | rfl | (simp; done) | (simp [*]; done)), H', ⟨by have := HK1.out; omega⟩, ⟨qR HO136.out⟩, ⟨qS1 GE102 HB.out⟩⟩
      rw [if_neg c32] at H
      have c32b0 : (((rd_T28 l0 x11_1).f1) == 15) = false := beq_eq_false_iff_ne.mpr c32
      have c32b1 : (((rd_T28 l0 x11_1).f1) != 15) = true := bne_iff_ne.mpr c32
      by_cases c52 : (wrap64 ((wrap64 (16 * ((rd_T28 l0 x11_1).f1))) + ((rd_T28 l0 x11_1).f2))) = x5_1
      · rw [if_pos c52] at H
        have c52b0 : ((wrap64 ((wrap64 (16 * ((rd_T28 l0 x11_1).f1))) + ((rd_T28 l0 x11_1).f2))) == x5_1) = true := beq_iff_eq.mpr c52
        have c52b1 : ((wrap64 ((wrap64 (16 * ((rd_T28 l0 x11_1).f1))) + ((rd_T28 l0 x11_1).f2))) != x5_1) = false := bne_eq_false_iff_eq.mpr c52
        clear c52
        by_cases c53 : y107.length < 140737488355328
        rotate_left
        · rw [if_neg c53] at H
          exact absurd H (by simp)
        rw [if_pos c53] at H
        have LMc53 := Aside0.mk c53
        clear c53
        obtain ⟨y137, hy137⟩ : ∃ y_ : List Int, y_ = (y107 ++ [((rd_T28 l0 x11_1).f3) % 256]) := ⟨_, rfl⟩
        replace H : ((wire_one.f ((rd_T28 l0 x11_1).f1)).bind fun t140 => (if t140 = true then (wire_Encode.l0 k1 y137 (wrap64 ((wrap64 (16 * ((rd_T28 l0 x11_1).f1))) + ((rd_T28 l0 x11_1).f2))) l0 (l0.length : Int) (wrap64 (x11_1 + 1))) else (if y137.length < 140737488355328 then (wire_Encode.l0 k1 (y137 ++ [((rd_T28 l0 x11_1).f4) % 256]) (wrap64 ((wrap64 (16 * ((rd_T28 l0 x11_1).f1))) + ((rd_T28 l0 x11_1).f2))) l0 (l0.length : Int) (wrap64 (x11_1 + 1))) else (none)))) = some (r1, r2) := by first | (rw [hy137]; with_reducible exact H) | (have H2_ := (Option.bind_some _ _).symm.trans H; rw [hy137]; with_reducible exact H2_) | (have H2_ := (Option.bind_some _ _).symm.trans H; with_reducible exact H2_) | with_reducible exact H | (rw [hy137]; exact H) | exact H
        have Ny137 := Aside0.mk hy137
        clear hy137
        replace H := Option.bind_eq_some_iff.mp H
        obtain ⟨t140, A540, H⟩ := H
        replace H : (if t140 = true then (wire_Encode.l0 k1 y137 (wrap64 ((wrap64 (16 * ((rd_T28 l0 x11_1).f1))) + ((rd_T28 l0 x11_1).f2))) l0 (l0.length : Int) (wrap64 (x11_1 + 1))) else (if y137.length < 140737488355328 then (wire_Encode.l0 k1 (y137 ++ [((rd_T28 l0 x11_1).f4) % 256]) (wrap64 ((wrap64 (16 * ((rd_T28 l0 x11_1).f1))) + ((rd_T28 l0 x11_1).f2))) l0 (l0.length : Int) (wrap64 (x11_1 + 1))) else (none))) = some (r1, r2) := H
        have A54 := Aside0.mk A540
        clear A540
        by_cases c55 : t140 = true
        · subst c55
          have H1 : (wire_Encode.l0 k1 y137 (wrap64 ((wrap64 (16 * ((rd_T28 l0 x11_1).f1))) + ((rd_T28 l0 x11_1).f2))) l0 (l0.length : Int) (wrap64 (x11_1 + 1))) = some (r1, r2) := by rw [if_pos rfl] at H; exact H
          clear H
          have H := H1
          clear H1
          have H' := Aside0.mk H
          clear H
          have p101 : 0 ≤ (x11_1 : Int) := of_decide_eq_true (by first | (with_reducible assumption) | assumption)
          have q101 : x11_1 < (l0.length : Int) := of_decide_eq_true (by first | (with_reducible assumption) | assumption)
          obtain ⟨ad101, e101, hx101_0, hx101_1, hx101_2, hx101_3, hx101_4, hx101_5⟩ := at_T28 HR0.out x11_1 p101 q101
          cases e101
          replace hx101_0 := (HB.out.cell (World.block_lt_of_cell? w _ hx101_0)).trans hx101_0
          replace hx101_1 := (HB.out.cell (World.block_lt_of_cell? w _ hx101_1)).trans hx101_1
          replace hx101_2 := (HB.out.cell (World.block_lt_of_cell? w _ hx101_2)).trans hx101_2
          replace hx101_3 := (HB.out.cell (World.block_lt_of_cell? w _ hx101_3)).trans hx101_3
          replace hx101_4 := (HB.out.cell (World.block_lt_of_cell? w _ hx101_4)).trans hx101_4
          replace hx101_5 := (HB.out.cell (World.block_lt_of_cell? w _ hx101_5)).trans hx101_5
          replace p101 := eq_true p101
          replace q101 := eq_true q101
          go_wp2_with (first | ((with_reducible refine gate_dst (N := 7) rfl ?_); refine box_event ?hg (N := 7) ?hd (cs := #[.int .i64 0, .int .i64 0, .int .i64 0, .int .i64 0, .int .i64 0, .string (⟨#[]⟩ : ByteArray)]) (t := 28) ?hr ?_; (case hd => rfl); (case hg => rfl); (case hr => first | (go_simp; done) | (go_simp; rfl)); intro gb102 hg w56 hbox hb; replace HO_4 := Aside0.mk (Kd.R_below (qR HO_4.out) hb); have BK102 := Aside0.mk (hbox); have GW102 := Aside0.mk ((by rw [hg]; exact (below_size (qB HB.out)) : w.heap.size ≤ gb102)); have GE102 := Aside0.mk ((by rw [hg]; exact (below_size (qB HB.out)) : w.heap.size ≤ gb102)); replace HB := Aside0.mk (below_step (qB HB.out) hb); clear hb hbox hg; obtain ⟨hcz57_0, hcz57_1, hcz57_2, hcz57_3, hcz57_4, hcz57_5, hfz57_0, hfz57_1, hfz57_2, hfz57_3, hfz57_4, hfz57_5⟩ := blk6 BK102.out) | ((with_reducible refine gate_callee (f := 35) rfl ?_); refine goesL_ (some 16) rfl rfl Try.func35 (by kernel_rfl) rfl #[.agg #[.int .i64 ((rd_T28 l0 x11_1).f0), .int .i64 ((rd_T28 l0 x11_1).f1), .int .i64 ((rd_T28 l0 x11_1).f2), .int .i64 ((rd_T28 l0 x11_1).f3), .int .i64 ((rd_T28 l0 x11_1).f4), .string ((rd_T28 l0 x11_1).f5)]] rfl (by (try simp only [List.map_toArray, List.map_cons, List.map_nil]); first | done | rfl | (simp only [List.length_drop, List.length_take]; rfl)) ?_; (with_reducible refine (wire_Right.calls k1 ((rd_T28 l0 x11_1).f0) ((rd_T28 l0 x11_1).f1) ((rd_T28 l0 x11_1).f2) ((rd_T28 l0 x11_1).f3) ((rd_T28 l0 x11_1).f4) ((rd_T28 l0 x11_1).f5) true _ A5.out).mono ?_); rintro e w58 ⟨rfl, hb⟩; refine ⟨_, rfl, ?_⟩; replace HO_4 := Aside0.mk (Kd.R_below (by (with_reducible repeat (first | apply Kd.R_alloc | apply Kd.R_drewN | apply Kd.R_drew)); exact (Kd.R_mono (Kd.R_far (p := ⟨gb102, 5, none⟩) (Kd.R_far (p := ⟨gb102, 4, none⟩) (Kd.R_far (p := ⟨gb102, 3, none⟩) (Kd.R_far (p := ⟨gb102, 2, none⟩) (Kd.R_far (p := ⟨gb102, 1, none⟩) (Kd.R_far (p := ⟨gb102, 0, none⟩) (Kd.R_types HO_4.out BK102.out (by decide)) (fun _ hk => hk.2) (.int .i64 ((rd_T28 l0 x11_1).f0))) (fun _ hk => hk.2) (.int .i64 ((rd_T28 l0 x11_1).f1))) (fun _ hk => hk.2) (.int .i64 ((rd_T28 l0 x11_1).f2))) (fun _ hk => hk.2) (.int .i64 ((rd_T28 l0 x11_1).f3))) (fun _ hk => hk.2) (.int .i64 ((rd_T28 l0 x11_1).f4))) (fun _ hk => hk.2) (.string ((rd_T28 l0 x11_1).f5))) (fun _ h_ => h_.1))) hb); replace BK102 := Aside0.mk (blk_below (g := gb102) (o := .cells #[.int .i64 ((rd_T28 l0 x11_1).f0), .int .i64 ((rd_T28 l0 x11_1).f1), .int .i64 ((rd_T28 l0 x11_1).f2), .int .i64 ((rd_T28 l0 x11_1).f3), .int .i64 ((rd_T28 l0 x11_1).f4), .string ((rd_T28 l0 x11_1).f5)] 28 (0, 0)) (by refine bq ?_; refine blk_put (cs := #[.int .i64 ((rd_T28 l0 x11_1).f0), .int .i64 ((rd_T28 l0 x11_1).f1), .int .i64 ((rd_T28 l0 x11_1).f2), .int .i64 ((rd_T28 l0 x11_1).f3), .int .i64 ((rd_T28 l0 x11_1).f4), .string (⟨#[]⟩ : ByteArray)]) ?_ 5 _ rfl; refine bq ?_; refine blk_put (cs := #[.int .i64 ((rd_T28 l0 x11_1).f0), .int .i64 ((rd_T28 l0 x11_1).f1), .int .i64 ((rd_T28 l0 x11_1).f2), .int .i64 ((rd_T28 l0 x11_1).f3), .int .i64 0, .string (⟨#[]⟩ : ByteArray)]) ?_ 4 _ rfl; refine bq ?_; refine blk_put (cs := #[.int .i64 ((rd_T28 l0 x11_1).f0), .int .i64 ((rd_T28 l0 x11_1).f1), .int .i64 ((rd_T28 l0 x11_1).f2), .int .i64 0, .int .i64 0, .string (⟨#[]⟩ : ByteArray)]) ?_ 3 _ rfl; refine bq ?_; refine blk_put (cs := #[.int .i64 ((rd_T28 l0 x11_1).f0), .int .i64 ((rd_T28 l0 x11_1).f1), .int .i64 0, .int .i64 0, .int .i64 0, .string (⟨#[]⟩ : ByteArray)]) ?_ 2 _ rfl; refine bq ?_; refine blk_put (cs := #[.int .i64 ((rd_T28 l0 x11_1).f0), .int .i64 0, .int .i64 0, .int .i64 0, .int .i64 0, .string (⟨#[]⟩ : ByteArray)]) ?_ 1 _ rfl; refine bq ?_; refine blk_put (cs := #[.int .i64 0, .int .i64 0, .int .i64 0, .int .i64 0, .int .i64 0, .string (⟨#[]⟩ : ByteArray)]) ?_ 0 _ rfl; exact bq BK102.out) hb); replace HB := Aside0.mk (below_step (qS1 GE102 HB.out) hb); (try clear hb); (try clear hb2); (try clear hk); (try clear hi); obtain ⟨hcz59_0, hcz59_1, hcz59_2, hcz59_3, hcz59_4, hcz59_5, hfz59_0, hfz59_1, hfz59_2, hfz59_3, hfz59_4, hfz59_5⟩ := blk6 BK102.out) | ((with_reducible refine gate_callee (f := 36) rfl ?_); refine goesL_ (some 21) rfl rfl Try.func36 (by kernel_rfl) rfl #[.int .i64 ((rd_T28 l0 x11_1).f0)] rfl (by (try simp only [List.map_toArray, List.map_cons, List.map_nil]); first | done | rfl | (simp only [List.length_drop, List.length_take]; rfl)) ?_; (with_reducible refine (wire_number.calls ((rd_T28 l0 x11_1).f0) t104 _ A7.out).mono ?_); rintro e w60 ⟨v105, rfl, ho0, hb⟩; refine ⟨_, rfl, ?_⟩; have HO106 := Aside0.mk (Kd.R_lower (Kd.R_new' ho0 (Kd.R_lt (qR HO_4.out))) (below_size (qS1 GE102 HB.out))); replace HO_4 := Aside0.mk (Kd.R_elder' (qR HO_4.out) (Kd.R_base ho0) hb); replace BK102 := Aside0.mk (blk_below (bq BK102.out) hb); replace HB := Aside0.mk (below_step (qS1 GE102 HB.out) hb); (try clear hb); (try clear hb2); (try clear hk); (try clear hi); (try clear ho0); obtain ⟨Ao62, co62, eo62⟩ := Kd.R_slice HO106.out; subst eo62) | ((with_reducible refine gate_builtin (b := .append) (xs := #[.tmp 18, .tmp 21]) rfl ?_); at_builtin; refine Kd.R_append_rows (Kd.int .u8) (w0 := w) w.heap.size rfl (.tmp 18) (.tmp 21) 39 5 (.int .u8 0) 1 rfl Try.underlying39 info5 rfl (by decide) (by omega) u4 x4_1 t104 _ _ _ (fun k_ => some k_ ≠ (.slice Ao62 t104.length co62 : Value).ownBlock) (fun _ => False) rfl rfl ?aO ?aR (fun _ _ h => h) (fun _ h => h.elim) ?aF ?aB ?aS ?aL ?_; (case aR => repeat (first | exact (Kd.R_reads' HO106.out).2.2 | (with_reducible refine Kd.C_alloc ?_ _) | (with_reducible refine Kd.C_drewN ?_ _) | (with_reducible refine Kd.C_drew ?_))); (case aB => exact (qS1 GE102 HB.out)); (case aF => exact (fun k_ hk => Kd.fresh' (Kd.R_lt (qR HO106.out)) k_ hk)); (case aO => exact (by (with_reducible repeat (first | apply Kd.R_alloc | apply Kd.R_drewN | apply Kd.R_drew)); exact Kd.R_mono HO_4.out (fun _ hk => hk.2))); (case aS => exact (below_size (qS1 GE102 HB.out))); (case aL => have := LMc8.out; omega); intro v108 w61 ho hb hg hat; rw [← Ny107.out] at ho; replace BK102 := Aside0.mk (blk_grown (bq BK102.out) hg (Kd.R_ne HO_4.out BK102.out (by decide))); replace HO106 := Aside0.mk (Kd.R_after (ok := (fun _ => True)) (qR HO106.out) hg hat); replace HB := Aside0.mk (hb); have HO109 := Aside0.mk (ho); clear HO_4; clear ho hb hg hat; obtain ⟨hcz63_0, hcz63_1, hcz63_2, hcz63_3, hcz63_4, hcz63_5, hfz63_0, hfz63_1, hfz63_2, hfz63_3, hfz63_4, hfz63_5⟩ := blk6 BK102.out) | ((with_reducible refine gate_builtin (b := .append) (xs := #[.tmp 62, .tmp 66]) rfl ?_); at_builtin; refine Kd.R_append (Kd.int .u8) (w0 := w) w.heap.size rfl (.tmp 62) (.tmp 66) 39 5 (.int .u8 0) 1 rfl Try.underlying39 info5 rfl (by decide) (by omega) v108 y107 (((rd_T28 l0 x11_1).f3) % 256) [.int .u8 (((rd_T28 l0 x11_1).f3) % 256)] (fun k_ => some k_ ≠ (.slice Ao62 t104.length co62 : Value).ownBlock) (fun _ => False) rfl rfl ?aP (fun _ hk => hk.elim) ?aF ?aO ?aB ?aS ?aL ?_; (case aP => exact rfl); (case aB => exact (qS1 GE102 HB.out)); (case aF => exact (fun k_ hk => Kd.fresh' (Kd.R_lt (qR HO106.out)) k_ hk)); (case aO => exact (qR HO109.out)); (case aS => exact (below_size (qS1 GE102 HB.out))); (case aL => have := LMc53.out; omega); intro v138 w64 ho hb hg hat; rw [← Ny137.out] at ho; replace BK102 := Aside0.mk (blk_grown (bq BK102.out) hg (Kd.R_ne HO109.out BK102.out (by decide))); replace HO106 := Aside0.mk (Kd.R_after (ok := (fun _ => True)) (qR HO106.out) hg hat); replace HB := Aside0.mk (hb); have HO139 := Aside0.mk (ho); clear HO109; clear ho hb hg hat; obtain ⟨hcz65_0, hcz65_1, hcz65_2, hcz65_3, hcz65_4, hcz65_5, hfz65_0, hfz65_1, hfz65_2, hfz65_3, hfz65_4, hfz65_5⟩ := blk6 BK102.out) | ((with_reducible refine gate_callee (f := 37) rfl ?_); refine goesL_ (some 70) rfl rfl Try.func37 (by kernel_rfl) rfl #[.int .i64 ((rd_T28 l0 x11_1).f1)] rfl (by (try simp only [List.map_toArray, List.map_cons, List.map_nil]); first | done | rfl | (simp only [List.length_drop, List.length_take]; rfl)) ?_; (with_reducible refine (wire_one.calls ((rd_T28 l0 x11_1).f1) true _ A54.out).mono ?_); rintro e w' ⟨rfl, ⟨nd, rfl⟩⟩; refine ⟨_, rfl, ?_⟩))
          go_roundg k1
          case measure => have := HK1.out; omega
          case rel => exact ⟨(y137), (wrap64 ((wrap64 (16 * ((rd_T28 l0 x11_1).f1))) + ((rd_T28 l0 x11_1).f2))), (wrap64 (x11_1 + 1)), (by first | rfl | (simp; done) | (simp [*]; done)), (by first | rfl | (simp; done) | (simp [*]; done)), H', ⟨by have := HK1.out; omega⟩, ⟨qR (Kd.R_mono HO139.out (fun _ hk => trivial))⟩, ⟨qS1 GE102 HB.out⟩⟩
        replace c55 := Bool.eq_false_iff.mpr c55
        subst c55
        have H1 : (if y137.length < 140737488355328 then (wire_Encode.l0 k1 (y137 ++ [((rd_T28 l0 x11_1).f4) % 256]) (wrap64 ((wrap64 (16 * ((rd_T28 l0 x11_1).f1))) + ((rd_T28 l0 x11_1).f2))) l0 (l0.length : Int) (wrap64 (x11_1 + 1))) else (none)) = some (r1, r2) := by rw [if_neg (show ¬ (false = true) by decide)] at H; exact H
        clear H
        have H := H1
        clear H1
        by_cases c66 : y137.length < 140737488355328
        rotate_left
        · rw [if_neg c66] at H
          exact absurd H (by simp)
        rw [if_pos c66] at H
        have LMc66 := Aside0.mk c66
        clear c66
        obtain ⟨y141, hy141⟩ : ∃ y_ : List Int, y_ = (y137 ++ [((rd_T28 l0 x11_1).f4) % 256]) := ⟨_, rfl⟩
        replace H : (wire_Encode.l0 k1 y141 (wrap64 ((wrap64 (16 * ((rd_T28 l0 x11_1).f1))) + ((rd_T28 l0 x11_1).f2))) l0 (l0.length : Int) (wrap64 (x11_1 + 1))) = some (r1, r2) := by first | (rw [hy141]; with_reducible exact H) | (have H2_ := (Option.bind_some _ _).symm.trans H; rw [hy141]; with_reducible exact H2_) | (have H2_ := (Option.bind_some _ _).symm.trans H; with_reducible exact H2_) | with_reducible exact H | (rw [hy141]; exact H) | exact H
        have Ny141 := Aside0.mk hy141
        clear hy141
        have H' := Aside0.mk H
        clear H
        have p101 : 0 ≤ (x11_1 : Int) := of_decide_eq_true (by first | (with_reducible assumption) | assumption)
        have q101 : x11_1 < (l0.length : Int) := of_decide_eq_true (by first | (with_reducible assumption) | assumption)
        obtain ⟨ad101, e101, hx101_0, hx101_1, hx101_2, hx101_3, hx101_4, hx101_5⟩ := at_T28 HR0.out x11_1 p101 q101
        cases e101
        replace hx101_0 := (HB.out.cell (World.block_lt_of_cell? w _ hx101_0)).trans hx101_0
        replace hx101_1 := (HB.out.cell (World.block_lt_of_cell? w _ hx101_1)).trans hx101_1
        replace hx101_2 := (HB.out.cell (World.block_lt_of_cell? w _ hx101_2)).trans hx101_2
        replace hx101_3 := (HB.out.cell (World.block_lt_of_cell? w _ hx101_3)).trans hx101_3
        replace hx101_4 := (HB.out.cell (World.block_lt_of_cell? w _ hx101_4)).trans hx101_4
        replace hx101_5 := (HB.out.cell (World.block_lt_of_cell? w _ hx101_5)).trans hx101_5
        replace p101 := eq_true p101
        replace q101 := eq_true q101
        go_wp2_with (first | ((with_reducible refine gate_dst (N := 7) rfl ?_); refine box_event ?hg (N := 7) ?hd (cs := #[.int .i64 0, .int .i64 0, .int .i64 0, .int .i64 0, .int .i64 0, .string (⟨#[]⟩ : ByteArray)]) (t := 28) ?hr ?_; (case hd => rfl); (case hg => rfl); (case hr => first | (go_simp; done) | (go_simp; rfl)); intro gb102 hg w67 hbox hb; replace HO_4 := Aside0.mk (Kd.R_below (qR HO_4.out) hb); have BK102 := Aside0.mk (hbox); have GW102 := Aside0.mk ((by rw [hg]; exact (below_size (qB HB.out)) : w.heap.size ≤ gb102)); have GE102 := Aside0.mk ((by rw [hg]; exact (below_size (qB HB.out)) : w.heap.size ≤ gb102)); replace HB := Aside0.mk (below_step (qB HB.out) hb); clear hb hbox hg; obtain ⟨hcz68_0, hcz68_1, hcz68_2, hcz68_3, hcz68_4, hcz68_5, hfz68_0, hfz68_1, hfz68_2, hfz68_3, hfz68_4, hfz68_5⟩ := blk6 BK102.out) | ((with_reducible refine gate_callee (f := 35) rfl ?_); refine goesL_ (some 16) rfl rfl Try.func35 (by kernel_rfl) rfl #[.agg #[.int .i64 ((rd_T28 l0 x11_1).f0), .int .i64 ((rd_T28 l0 x11_1).f1), .int .i64 ((rd_T28 l0 x11_1).f2), .int .i64 ((rd_T28 l0 x11_1).f3), .int .i64 ((rd_T28 l0 x11_1).f4), .string ((rd_T28 l0 x11_1).f5)]] rfl (by (try simp only [List.map_toArray, List.map_cons, List.map_nil]); first | done | rfl | (simp only [List.length_drop, List.length_take]; rfl)) ?_; (with_reducible refine (wire_Right.calls k1 ((rd_T28 l0 x11_1).f0) ((rd_T28 l0 x11_1).f1) ((rd_T28 l0 x11_1).f2) ((rd_T28 l0 x11_1).f3) ((rd_T28 l0 x11_1).f4) ((rd_T28 l0 x11_1).f5) true _ A5.out).mono ?_); rintro e w69 ⟨rfl, hb⟩; refine ⟨_, rfl, ?_⟩; replace HO_4 := Aside0.mk (Kd.R_below (by (with_reducible repeat (first | apply Kd.R_alloc | apply Kd.R_drewN | apply Kd.R_drew)); exact (Kd.R_mono (Kd.R_far (p := ⟨gb102, 5, none⟩) (Kd.R_far (p := ⟨gb102, 4, none⟩) (Kd.R_far (p := ⟨gb102, 3, none⟩) (Kd.R_far (p := ⟨gb102, 2, none⟩) (Kd.R_far (p := ⟨gb102, 1, none⟩) (Kd.R_far (p := ⟨gb102, 0, none⟩) (Kd.R_types HO_4.out BK102.out (by decide)) (fun _ hk => hk.2) (.int .i64 ((rd_T28 l0 x11_1).f0))) (fun _ hk => hk.2) (.int .i64 ((rd_T28 l0 x11_1).f1))) (fun _ hk => hk.2) (.int .i64 ((rd_T28 l0 x11_1).f2))) (fun _ hk => hk.2) (.int .i64 ((rd_T28 l0 x11_1).f3))) (fun _ hk => hk.2) (.int .i64 ((rd_T28 l0 x11_1).f4))) (fun _ hk => hk.2) (.string ((rd_T28 l0 x11_1).f5))) (fun _ h_ => h_.1))) hb); replace BK102 := Aside0.mk (blk_below (g := gb102) (o := .cells #[.int .i64 ((rd_T28 l0 x11_1).f0), .int .i64 ((rd_T28 l0 x11_1).f1), .int .i64 ((rd_T28 l0 x11_1).f2), .int .i64 ((rd_T28 l0 x11_1).f3), .int .i64 ((rd_T28 l0 x11_1).f4), .string ((rd_T28 l0 x11_1).f5)] 28 (0, 0)) (by refine bq ?_; refine blk_put (cs := #[.int .i64 ((rd_T28 l0 x11_1).f0), .int .i64 ((rd_T28 l0 x11_1).f1), .int .i64 ((rd_T28 l0 x11_1).f2), .int .i64 ((rd_T28 l0 x11_1).f3), .int .i64 ((rd_T28 l0 x11_1).f4), .string (⟨#[]⟩ : ByteArray)]) ?_ 5 _ rfl; refine bq ?_; refine blk_put (cs := #[.int .i64 ((rd_T28 l0 x11_1).f0), .int .i64 ((rd_T28 l0 x11_1).f1), .int .i64 ((rd_T28 l0 x11_1).f2), .int .i64 ((rd_T28 l0 x11_1).f3), .int .i64 0, .string (⟨#[]⟩ : ByteArray)]) ?_ 4 _ rfl; refine bq ?_; refine blk_put (cs := #[.int .i64 ((rd_T28 l0 x11_1).f0), .int .i64 ((rd_T28 l0 x11_1).f1), .int .i64 ((rd_T28 l0 x11_1).f2), .int .i64 0, .int .i64 0, .string (⟨#[]⟩ : ByteArray)]) ?_ 3 _ rfl; refine bq ?_; refine blk_put (cs := #[.int .i64 ((rd_T28 l0 x11_1).f0), .int .i64 ((rd_T28 l0 x11_1).f1), .int .i64 0, .int .i64 0, .int .i64 0, .string (⟨#[]⟩ : ByteArray)]) ?_ 2 _ rfl; refine bq ?_; refine blk_put (cs := #[.int .i64 ((rd_T28 l0 x11_1).f0), .int .i64 0, .int .i64 0, .int .i64 0, .int .i64 0, .string (⟨#[]⟩ : ByteArray)]) ?_ 1 _ rfl; refine bq ?_; refine blk_put (cs := #[.int .i64 0, .int .i64 0, .int .i64 0, .int .i64 0, .int .i64 0, .string (⟨#[]⟩ : ByteArray)]) ?_ 0 _ rfl; exact bq BK102.out) hb); replace HB := Aside0.mk (below_step (qS1 GE102 HB.out) hb); (try clear hb); (try clear hb2); (try clear hk); (try clear hi); obtain ⟨hcz70_0, hcz70_1, hcz70_2, hcz70_3, hcz70_4, hcz70_5, hfz70_0, hfz70_1, hfz70_2, hfz70_3, hfz70_4, hfz70_5⟩ := blk6 BK102.out) | ((with_reducible refine gate_callee (f := 36) rfl ?_); refine goesL_ (some 21) rfl rfl Try.func36 (by kernel_rfl) rfl #[.int .i64 ((rd_T28 l0 x11_1).f0)] rfl (by (try simp only [List.map_toArray, List.map_cons, List.map_nil]); first | done | rfl | (simp only [List.length_drop, List.length_take]; rfl)) ?_; (with_reducible refine (wire_number.calls ((rd_T28 l0 x11_1).f0) t104 _ A7.out).mono ?_); rintro e w71 ⟨v105, rfl, ho0, hb⟩; refine ⟨_, rfl, ?_⟩; have HO106 := Aside0.mk (Kd.R_lower (Kd.R_new' ho0 (Kd.R_lt (qR HO_4.out))) (below_size (qS1 GE102 HB.out))); replace HO_4 := Aside0.mk (Kd.R_elder' (qR HO_4.out) (Kd.R_base ho0) hb); replace BK102 := Aside0.mk (blk_below (bq BK102.out) hb); replace HB := Aside0.mk (below_step (qS1 GE102 HB.out) hb); (try clear hb); (try clear hb2); (try clear hk); (try clear hi); (try clear ho0); obtain ⟨Ao73, co73, eo73⟩ := Kd.R_slice HO106.out; subst eo73) | ((with_reducible refine gate_builtin (b := .append) (xs := #[.tmp 18, .tmp 21]) rfl ?_); at_builtin; refine Kd.R_append_rows (Kd.int .u8) (w0 := w) w.heap.size rfl (.tmp 18) (.tmp 21) 39 5 (.int .u8 0) 1 rfl Try.underlying39 info5 rfl (by decide) (by omega) u4 x4_1 t104 _ _ _ (fun k_ => some k_ ≠ (.slice Ao73 t104.length co73 : Value).ownBlock) (fun _ => False) rfl rfl ?aO ?aR (fun _ _ h => h) (fun _ h => h.elim) ?aF ?aB ?aS ?aL ?_; (case aR => repeat (first | exact (Kd.R_reads' HO106.out).2.2 | (with_reducible refine Kd.C_alloc ?_ _) | (with_reducible refine Kd.C_drewN ?_ _) | (with_reducible refine Kd.C_drew ?_))); (case aB => exact (qS1 GE102 HB.out)); (case aF => exact (fun k_ hk => Kd.fresh' (Kd.R_lt (qR HO106.out)) k_ hk)); (case aO => exact (by (with_reducible repeat (first | apply Kd.R_alloc | apply Kd.R_drewN | apply Kd.R_drew)); exact Kd.R_mono HO_4.out (fun _ hk => hk.2))); (case aS => exact (below_size (qS1 GE102 HB.out))); (case aL => have := LMc8.out; omega); intro v108 w72 ho hb hg hat; rw [← Ny107.out] at ho; replace BK102 := Aside0.mk (blk_grown (bq BK102.out) hg (Kd.R_ne HO_4.out BK102.out (by decide))); replace HO106 := Aside0.mk (Kd.R_after (ok := (fun _ => True)) (qR HO106.out) hg hat); replace HB := Aside0.mk (hb); have HO109 := Aside0.mk (ho); clear HO_4; clear ho hb hg hat; obtain ⟨hcz74_0, hcz74_1, hcz74_2, hcz74_3, hcz74_4, hcz74_5, hfz74_0, hfz74_1, hfz74_2, hfz74_3, hfz74_4, hfz74_5⟩ := blk6 BK102.out) | ((with_reducible refine gate_builtin (b := .append) (xs := #[.tmp 62, .tmp 66]) rfl ?_); at_builtin; refine Kd.R_append (Kd.int .u8) (w0 := w) w.heap.size rfl (.tmp 62) (.tmp 66) 39 5 (.int .u8 0) 1 rfl Try.underlying39 info5 rfl (by decide) (by omega) v108 y107 (((rd_T28 l0 x11_1).f3) % 256) [.int .u8 (((rd_T28 l0 x11_1).f3) % 256)] (fun k_ => some k_ ≠ (.slice Ao73 t104.length co73 : Value).ownBlock) (fun _ => False) rfl rfl ?aP (fun _ hk => hk.elim) ?aF ?aO ?aB ?aS ?aL ?_; (case aP => exact rfl); (case aB => exact (qS1 GE102 HB.out)); (case aF => exact (fun k_ hk => Kd.fresh' (Kd.R_lt (qR HO106.out)) k_ hk)); (case aO => exact (qR HO109.out)); (case aS => exact (below_size (qS1 GE102 HB.out))); (case aL => have := LMc53.out; omega); intro v138 w75 ho hb hg hat; rw [← Ny137.out] at ho; replace BK102 := Aside0.mk (blk_grown (bq BK102.out) hg (Kd.R_ne HO109.out BK102.out (by decide))); replace HO106 := Aside0.mk (Kd.R_after (ok := (fun _ => True)) (qR HO106.out) hg hat); replace HB := Aside0.mk (hb); have HO139 := Aside0.mk (ho); clear HO109; clear ho hb hg hat; obtain ⟨hcz76_0, hcz76_1, hcz76_2, hcz76_3, hcz76_4, hcz76_5, hfz76_0, hfz76_1, hfz76_2, hfz76_3, hfz76_4, hfz76_5⟩ := blk6 BK102.out) | ((with_reducible refine gate_callee (f := 37) rfl ?_); refine goesL_ (some 70) rfl rfl Try.func37 (by kernel_rfl) rfl #[.int .i64 ((rd_T28 l0 x11_1).f1)] rfl (by (try simp only [List.map_toArray, List.map_cons, List.map_nil]); first | done | rfl | (simp only [List.length_drop, List.length_take]; rfl)) ?_; (with_reducible refine (wire_one.calls ((rd_T28 l0 x11_1).f1) false _ A54.out).mono ?_); rintro e w' ⟨rfl, ⟨nd, rfl⟩⟩; refine ⟨_, rfl, ?_⟩) | ((with_reducible refine gate_builtin (b := .append) (xs := #[.tmp 72, .tmp 76]) rfl ?_); at_builtin; refine Kd.R_append (Kd.int .u8) (w0 := w) w.heap.size rfl (.tmp 72) (.tmp 76) 39 5 (.int .u8 0) 1 rfl Try.underlying39 info5 rfl (by decide) (by omega) v138 y137 (((rd_T28 l0 x11_1).f4) % 256) [.int .u8 (((rd_T28 l0 x11_1).f4) % 256)] (fun k_ => some k_ ≠ (.slice Ao73 t104.length co73 : Value).ownBlock) (fun _ => False) rfl rfl ?aP (fun _ hk => hk.elim) ?aF ?aO ?aB ?aS ?aL ?_; (case aP => exact rfl); (case aB => exact (qS1 GE102 HB.out)); (case aF => exact (fun k_ hk => Kd.fresh' (Kd.R_lt (qR HO106.out)) k_ hk)); (case aO => exact (qR HO139.out)); (case aS => exact (below_size (qS1 GE102 HB.out))); (case aL => have := LMc66.out; omega); intro v142 w77 ho hb hg hat; rw [← Ny141.out] at ho; replace BK102 := Aside0.mk (blk_grown (bq BK102.out) hg (Kd.R_ne HO139.out BK102.out (by decide))); replace HO106 := Aside0.mk (Kd.R_after (ok := (fun _ => True)) (qR HO106.out) hg hat); replace HB := Aside0.mk (hb); have HO143 := Aside0.mk (ho); clear HO139; clear ho hb hg hat))
        go_roundg k1
        case measure => have := HK1.out; omega
        case rel => exact ⟨(y141), (wrap64 ((wrap64 (16 * ((rd_T28 l0 x11_1).f1))) + ((rd_T28 l0 x11_1).f2))), (wrap64 (x11_1 + 1)), (by first | rfl | (simp; done) | (simp [*]; done)), (by first | rfl | (simp; done) | (simp [*]; done)), H', ⟨by have := HK1.out; omega⟩, ⟨qR (Kd.R_mono HO143.out (fun _ hk => trivial))⟩, ⟨qS1 GE102 HB.out⟩⟩
      rw [if_neg c52] at H
      have c52b0 : ((wrap64 ((wrap64 (16 * ((rd_T28 l0 x11_1).f1))) + ((rd_T28 l0 x11_1).f2))) == x5_1) = false := beq_eq_false_iff_ne.mpr c52
      have c52b1 : ((wrap64 ((wrap64 (16 * ((rd_T28 l0 x11_1).f1))) + ((rd_T28 l0 x11_1).f2))) != x5_1) = true := bne_iff_ne.mpr c52
      by_cases c78 : y107.length < 140737488355328
      rotate_left
      · rw [if_neg c78] at H
        exact absurd H (by simp)
      rw [if_pos c78] at H
      have LMc78 := Aside0.mk c78
      clear c78
      obtain ⟨y144, hy144⟩ : ∃ y_ : List Int, y_ = (y107 ++ [(wrap64 ((wrap64 (16 * ((rd_T28 l0 x11_1).f1))) + ((rd_T28 l0 x11_1).f2))) % 256]) := ⟨_, rfl⟩
      replace H : (if y144.length < 140737488355328 then ((some (y144 ++ [((rd_T28 l0 x11_1).f3) % 256] : List Int)).bind fun y147 => ((wire_one.f ((rd_T28 l0 x11_1).f1)).bind fun t150 => (if t150 = true then (wire_Encode.l0 k1 y147 (wrap64 ((wrap64 (16 * ((rd_T28 l0 x11_1).f1))) + ((rd_T28 l0 x11_1).f2))) l0 (l0.length : Int) (wrap64 (x11_1 + 1))) else (if y147.length < 140737488355328 then (wire_Encode.l0 k1 (y147 ++ [((rd_T28 l0 x11_1).f4) % 256]) (wrap64 ((wrap64 (16 * ((rd_T28 l0 x11_1).f1))) + ((rd_T28 l0 x11_1).f2))) l0 (l0.length : Int) (wrap64 (x11_1 + 1))) else (none))))) else (none)) = some (r1, r2) := by first | (rw [hy144]; with_reducible exact H) | (have H2_ := (Option.bind_some _ _).symm.trans H; rw [hy144]; with_reducible exact H2_) | (have H2_ := (Option.bind_some _ _).symm.trans H; with_reducible exact H2_) | with_reducible exact H | (rw [hy144]; exact H) | exact H
      have Ny144 := Aside0.mk hy144
      clear hy144
      by_cases c79 : y144.length < 140737488355328
      rotate_left
      · rw [if_neg c79] at H
        exact absurd H (by simp)
      rw [if_pos c79] at H
      have LMc79 := Aside0.mk c79
      clear c79
      obtain ⟨y147, hy147⟩ : ∃ y_ : List Int, y_ = (y144 ++ [((rd_T28 l0 x11_1).f3) % 256]) := ⟨_, rfl⟩
      replace H : ((wire_one.f ((rd_T28 l0 x11_1).f1)).bind fun t150 => (if t150 = true then (wire_Encode.l0 k1 y147 (wrap64 ((wrap64 (16 * ((rd_T28 l0 x11_1).f1))) + ((rd_T28 l0 x11_1).f2))) l0 (l0.length : Int) (wrap64 (x11_1 + 1))) else (if y147.length < 140737488355328 then (wire_Encode.l0 k1 (y147 ++ [((rd_T28 l0 x11_1).f4) % 256]) (wrap64 ((wrap64 (16 * ((rd_T28 l0 x11_1).f1))) + ((rd_T28 l0 x11_1).f2))) l0 (l0.length : Int) (wrap64 (x11_1 + 1))) else (none)))) = some (r1, r2) := by first | (rw [hy147]; with_reducible exact H) | (have H2_ := (Option.bind_some _ _).symm.trans H; rw [hy147]; with_reducible exact H2_) | (have H2_ := (Option.bind_some _ _).symm.trans H; with_reducible exact H2_) | with_reducible exact H | (rw [hy147]; exact H) | exact H
      have Ny147 := Aside0.mk hy147
      clear hy147
      replace H := Option.bind_eq_some_iff.mp H
      obtain ⟨t150, A800, H⟩ := H
      replace H : (if t150 = true then (wire_Encode.l0 k1 y147 (wrap64 ((wrap64 (16 * ((rd_T28 l0 x11_1).f1))) + ((rd_T28 l0 x11_1).f2))) l0 (l0.length : Int) (wrap64 (x11_1 + 1))) else (if y147.length < 140737488355328 then (wire_Encode.l0 k1 (y147 ++ [((rd_T28 l0 x11_1).f4) % 256]) (wrap64 ((wrap64 (16 * ((rd_T28 l0 x11_1).f1))) + ((rd_T28 l0 x11_1).f2))) l0 (l0.length : Int) (wrap64 (x11_1 + 1))) else (none))) = some (r1, r2) := H
      have A80 := Aside0.mk A800
      clear A800
      by_cases c81 : t150 = true
      · subst c81
        have H1 : (wire_Encode.l0 k1 y147 (wrap64 ((wrap64 (16 * ((rd_T28 l0 x11_1).f1))) + ((rd_T28 l0 x11_1).f2))) l0 (l0.length : Int) (wrap64 (x11_1 + 1))) = some (r1, r2) := by rw [if_pos rfl] at H; exact H
        clear H
        have H := H1
        clear H1
        have H' := Aside0.mk H
        clear H
        have p101 : 0 ≤ (x11_1 : Int) := of_decide_eq_true (by first | (with_reducible assumption) | assumption)
        have q101 : x11_1 < (l0.length : Int) := of_decide_eq_true (by first | (with_reducible assumption) | assumption)
        obtain ⟨ad101, e101, hx101_0, hx101_1, hx101_2, hx101_3, hx101_4, hx101_5⟩ := at_T28 HR0.out x11_1 p101 q101
        cases e101
        replace hx101_0 := (HB.out.cell (World.block_lt_of_cell? w _ hx101_0)).trans hx101_0
        replace hx101_1 := (HB.out.cell (World.block_lt_of_cell? w _ hx101_1)).trans hx101_1
        replace hx101_2 := (HB.out.cell (World.block_lt_of_cell? w _ hx101_2)).trans hx101_2
        replace hx101_3 := (HB.out.cell (World.block_lt_of_cell? w _ hx101_3)).trans hx101_3
        replace hx101_4 := (HB.out.cell (World.block_lt_of_cell? w _ hx101_4)).trans hx101_4
        replace hx101_5 := (HB.out.cell (World.block_lt_of_cell? w _ hx101_5)).trans hx101_5
        replace p101 := eq_true p101
        replace q101 := eq_true q101
        go_wp2_with (first | ((with_reducible refine gate_dst (N := 7) rfl ?_); refine box_event ?hg (N := 7) ?hd (cs := #[.int .i64 0, .int .i64 0, .int .i64 0, .int .i64 0, .int .i64 0, .string (⟨#[]⟩ : ByteArray)]) (t := 28) ?hr ?_; (case hd => rfl); (case hg => rfl); (case hr => first | (go_simp; done) | (go_simp; rfl)); intro gb102 hg w82 hbox hb; replace HO_4 := Aside0.mk (Kd.R_below (qR HO_4.out) hb); have BK102 := Aside0.mk (hbox); have GW102 := Aside0.mk ((by rw [hg]; exact (below_size (qB HB.out)) : w.heap.size ≤ gb102)); have GE102 := Aside0.mk ((by rw [hg]; exact (below_size (qB HB.out)) : w.heap.size ≤ gb102)); replace HB := Aside0.mk (below_step (qB HB.out) hb); clear hb hbox hg; obtain ⟨hcz83_0, hcz83_1, hcz83_2, hcz83_3, hcz83_4, hcz83_5, hfz83_0, hfz83_1, hfz83_2, hfz83_3, hfz83_4, hfz83_5⟩ := blk6 BK102.out) | ((with_reducible refine gate_callee (f := 35) rfl ?_); refine goesL_ (some 16) rfl rfl Try.func35 (by kernel_rfl) rfl #[.agg #[.int .i64 ((rd_T28 l0 x11_1).f0), .int .i64 ((rd_T28 l0 x11_1).f1), .int .i64 ((rd_T28 l0 x11_1).f2), .int .i64 ((rd_T28 l0 x11_1).f3), .int .i64 ((rd_T28 l0 x11_1).f4), .string ((rd_T28 l0 x11_1).f5)]] rfl (by (try simp only [List.map_toArray, List.map_cons, List.map_nil]); first | done | rfl | (simp only [List.length_drop, List.length_take]; rfl)) ?_; (with_reducible refine (wire_Right.calls k1 ((rd_T28 l0 x11_1).f0) ((rd_T28 l0 x11_1).f1) ((rd_T28 l0 x11_1).f2) ((rd_T28 l0 x11_1).f3) ((rd_T28 l0 x11_1).f4) ((rd_T28 l0 x11_1).f5) true _ A5.out).mono ?_); rintro e w84 ⟨rfl, hb⟩; refine ⟨_, rfl, ?_⟩; replace HO_4 := Aside0.mk (Kd.R_below (by (with_reducible repeat (first | apply Kd.R_alloc | apply Kd.R_drewN | apply Kd.R_drew)); exact (Kd.R_mono (Kd.R_far (p := ⟨gb102, 5, none⟩) (Kd.R_far (p := ⟨gb102, 4, none⟩) (Kd.R_far (p := ⟨gb102, 3, none⟩) (Kd.R_far (p := ⟨gb102, 2, none⟩) (Kd.R_far (p := ⟨gb102, 1, none⟩) (Kd.R_far (p := ⟨gb102, 0, none⟩) (Kd.R_types HO_4.out BK102.out (by decide)) (fun _ hk => hk.2) (.int .i64 ((rd_T28 l0 x11_1).f0))) (fun _ hk => hk.2) (.int .i64 ((rd_T28 l0 x11_1).f1))) (fun _ hk => hk.2) (.int .i64 ((rd_T28 l0 x11_1).f2))) (fun _ hk => hk.2) (.int .i64 ((rd_T28 l0 x11_1).f3))) (fun _ hk => hk.2) (.int .i64 ((rd_T28 l0 x11_1).f4))) (fun _ hk => hk.2) (.string ((rd_T28 l0 x11_1).f5))) (fun _ h_ => h_.1))) hb); replace BK102 := Aside0.mk (blk_below (g := gb102) (o := .cells #[.int .i64 ((rd_T28 l0 x11_1).f0), .int .i64 ((rd_T28 l0 x11_1).f1), .int .i64 ((rd_T28 l0 x11_1).f2), .int .i64 ((rd_T28 l0 x11_1).f3), .int .i64 ((rd_T28 l0 x11_1).f4), .string ((rd_T28 l0 x11_1).f5)] 28 (0, 0)) (by refine bq ?_; refine blk_put (cs := #[.int .i64 ((rd_T28 l0 x11_1).f0), .int .i64 ((rd_T28 l0 x11_1).f1), .int .i64 ((rd_T28 l0 x11_1).f2), .int .i64 ((rd_T28 l0 x11_1).f3), .int .i64 ((rd_T28 l0 x11_1).f4), .string (⟨#[]⟩ : ByteArray)]) ?_ 5 _ rfl; refine bq ?_; refine blk_put (cs := #[.int .i64 ((rd_T28 l0 x11_1).f0), .int .i64 ((rd_T28 l0 x11_1).f1), .int .i64 ((rd_T28 l0 x11_1).f2), .int .i64 ((rd_T28 l0 x11_1).f3), .int .i64 0, .string (⟨#[]⟩ : ByteArray)]) ?_ 4 _ rfl; refine bq ?_; refine blk_put (cs := #[.int .i64 ((rd_T28 l0 x11_1).f0), .int .i64 ((rd_T28 l0 x11_1).f1), .int .i64 ((rd_T28 l0 x11_1).f2), .int .i64 0, .int .i64 0, .string (⟨#[]⟩ : ByteArray)]) ?_ 3 _ rfl; refine bq ?_; refine blk_put (cs := #[.int .i64 ((rd_T28 l0 x11_1).f0), .int .i64 ((rd_T28 l0 x11_1).f1), .int .i64 0, .int .i64 0, .int .i64 0, .string (⟨#[]⟩ : ByteArray)]) ?_ 2 _ rfl; refine bq ?_; refine blk_put (cs := #[.int .i64 ((rd_T28 l0 x11_1).f0), .int .i64 0, .int .i64 0, .int .i64 0, .int .i64 0, .string (⟨#[]⟩ : ByteArray)]) ?_ 1 _ rfl; refine bq ?_; refine blk_put (cs := #[.int .i64 0, .int .i64 0, .int .i64 0, .int .i64 0, .int .i64 0, .string (⟨#[]⟩ : ByteArray)]) ?_ 0 _ rfl; exact bq BK102.out) hb); replace HB := Aside0.mk (below_step (qS1 GE102 HB.out) hb); (try clear hb); (try clear hb2); (try clear hk); (try clear hi); obtain ⟨hcz85_0, hcz85_1, hcz85_2, hcz85_3, hcz85_4, hcz85_5, hfz85_0, hfz85_1, hfz85_2, hfz85_3, hfz85_4, hfz85_5⟩ := blk6 BK102.out) | ((with_reducible refine gate_callee (f := 36) rfl ?_); refine goesL_ (some 21) rfl rfl Try.func36 (by kernel_rfl) rfl #[.int .i64 ((rd_T28 l0 x11_1).f0)] rfl (by (try simp only [List.map_toArray, List.map_cons, List.map_nil]); first | done | rfl | (simp only [List.length_drop, List.length_take]; rfl)) ?_; (with_reducible refine (wire_number.calls ((rd_T28 l0 x11_1).f0) t104 _ A7.out).mono ?_); rintro e w86 ⟨v105, rfl, ho0, hb⟩; refine ⟨_, rfl, ?_⟩; have HO106 := Aside0.mk (Kd.R_lower (Kd.R_new' ho0 (Kd.R_lt (qR HO_4.out))) (below_size (qS1 GE102 HB.out))); replace HO_4 := Aside0.mk (Kd.R_elder' (qR HO_4.out) (Kd.R_base ho0) hb); replace BK102 := Aside0.mk (blk_below (bq BK102.out) hb); replace HB := Aside0.mk (below_step (qS1 GE102 HB.out) hb); (try clear hb); (try clear hb2); (try clear hk); (try clear hi); (try clear ho0); obtain ⟨Ao88, co88, eo88⟩ := Kd.R_slice HO106.out; subst eo88) | ((with_reducible refine gate_builtin (b := .append) (xs := #[.tmp 18, .tmp 21]) rfl ?_); at_builtin; refine Kd.R_append_rows (Kd.int .u8) (w0 := w) w.heap.size rfl (.tmp 18) (.tmp 21) 39 5 (.int .u8 0) 1 rfl Try.underlying39 info5 rfl (by decide) (by omega) u4 x4_1 t104 _ _ _ (fun k_ => some k_ ≠ (.slice Ao88 t104.length co88 : Value).ownBlock) (fun _ => False) rfl rfl ?aO ?aR (fun _ _ h => h) (fun _ h => h.elim) ?aF ?aB ?aS ?aL ?_; (case aR => repeat (first | exact (Kd.R_reads' HO106.out).2.2 | (with_reducible refine Kd.C_alloc ?_ _) | (with_reducible refine Kd.C_drewN ?_ _) | (with_reducible refine Kd.C_drew ?_))); (case aB => exact (qS1 GE102 HB.out)); (case aF => exact (fun k_ hk => Kd.fresh' (Kd.R_lt (qR HO106.out)) k_ hk)); (case aO => exact (by (with_reducible repeat (first | apply Kd.R_alloc | apply Kd.R_drewN | apply Kd.R_drew)); exact Kd.R_mono HO_4.out (fun _ hk => hk.2))); (case aS => exact (below_size (qS1 GE102 HB.out))); (case aL => have := LMc8.out; omega); intro v108 w87 ho hb hg hat; rw [← Ny107.out] at ho; replace BK102 := Aside0.mk (blk_grown (bq BK102.out) hg (Kd.R_ne HO_4.out BK102.out (by decide))); replace HO106 := Aside0.mk (Kd.R_after (ok := (fun _ => True)) (qR HO106.out) hg hat); replace HB := Aside0.mk (hb); have HO109 := Aside0.mk (ho); clear HO_4; clear ho hb hg hat; obtain ⟨hcz89_0, hcz89_1, hcz89_2, hcz89_3, hcz89_4, hcz89_5, hfz89_0, hfz89_1, hfz89_2, hfz89_3, hfz89_4, hfz89_5⟩ := blk6 BK102.out) | ((with_reducible refine gate_builtin (b := .append) (xs := #[.tmp 57, .tmp 60]) rfl ?_); at_builtin; refine Kd.R_append (Kd.int .u8) (w0 := w) w.heap.size rfl (.tmp 57) (.tmp 60) 39 5 (.int .u8 0) 1 rfl Try.underlying39 info5 rfl (by decide) (by omega) v108 y107 ((wrap64 ((wrap64 (16 * ((rd_T28 l0 x11_1).f1))) + ((rd_T28 l0 x11_1).f2))) % 256) [.int .u8 ((wrap64 ((wrap64 (16 * ((rd_T28 l0 x11_1).f1))) + ((rd_T28 l0 x11_1).f2))) % 256)] (fun k_ => some k_ ≠ (.slice Ao88 t104.length co88 : Value).ownBlock) (fun _ => False) rfl rfl ?aP (fun _ hk => hk.elim) ?aF ?aO ?aB ?aS ?aL ?_; (case aP => exact rfl); (case aB => exact (qS1 GE102 HB.out)); (case aF => exact (fun k_ hk => Kd.fresh' (Kd.R_lt (qR HO106.out)) k_ hk)); (case aO => exact (qR HO109.out)); (case aS => exact (below_size (qS1 GE102 HB.out))); (case aL => have := LMc78.out; omega); intro v145 w90 ho hb hg hat; rw [← Ny144.out] at ho; replace BK102 := Aside0.mk (blk_grown (bq BK102.out) hg (Kd.R_ne HO109.out BK102.out (by decide))); replace HO106 := Aside0.mk (Kd.R_after (ok := (fun _ => True)) (qR HO106.out) hg hat); replace HB := Aside0.mk (hb); have HO146 := Aside0.mk (ho); clear HO109; clear ho hb hg hat; obtain ⟨hcz91_0, hcz91_1, hcz91_2, hcz91_3, hcz91_4, hcz91_5, hfz91_0, hfz91_1, hfz91_2, hfz91_3, hfz91_4, hfz91_5⟩ := blk6 BK102.out) | ((with_reducible refine gate_builtin (b := .append) (xs := #[.tmp 62, .tmp 66]) rfl ?_); at_builtin; refine Kd.R_append (Kd.int .u8) (w0 := w) w.heap.size rfl (.tmp 62) (.tmp 66) 39 5 (.int .u8 0) 1 rfl Try.underlying39 info5 rfl (by decide) (by omega) v145 y144 (((rd_T28 l0 x11_1).f3) % 256) [.int .u8 (((rd_T28 l0 x11_1).f3) % 256)] (fun k_ => some k_ ≠ (.slice Ao88 t104.length co88 : Value).ownBlock) (fun _ => False) rfl rfl ?aP (fun _ hk => hk.elim) ?aF ?aO ?aB ?aS ?aL ?_; (case aP => exact rfl); (case aB => exact (qS1 GE102 HB.out)); (case aF => exact (fun k_ hk => Kd.fresh' (Kd.R_lt (qR HO106.out)) k_ hk)); (case aO => exact (qR HO146.out)); (case aS => exact (below_size (qS1 GE102 HB.out))); (case aL => have := LMc79.out; omega); intro v148 w92 ho hb hg hat; rw [← Ny147.out] at ho; replace BK102 := Aside0.mk (blk_grown (bq BK102.out) hg (Kd.R_ne HO146.out BK102.out (by decide))); replace HO106 := Aside0.mk (Kd.R_after (ok := (fun _ => True)) (qR HO106.out) hg hat); replace HB := Aside0.mk (hb); have HO149 := Aside0.mk (ho); clear HO146; clear ho hb hg hat; obtain ⟨hcz93_0, hcz93_1, hcz93_2, hcz93_3, hcz93_4, hcz93_5, hfz93_0, hfz93_1, hfz93_2, hfz93_3, hfz93_4, hfz93_5⟩ := blk6 BK102.out) | ((with_reducible refine gate_callee (f := 37) rfl ?_); refine goesL_ (some 70) rfl rfl Try.func37 (by kernel_rfl) rfl #[.int .i64 ((rd_T28 l0 x11_1).f1)] rfl (by (try simp only [List.map_toArray, List.map_cons, List.map_nil]); first | done | rfl | (simp only [List.length_drop, List.length_take]; rfl)) ?_; (with_reducible refine (wire_one.calls ((rd_T28 l0 x11_1).f1) true _ A80.out).mono ?_); rintro e w' ⟨rfl, ⟨nd, rfl⟩⟩; refine ⟨_, rfl, ?_⟩))
        go_roundg k1
        case measure => have := HK1.out; omega
        case rel => exact ⟨(y147), (wrap64 ((wrap64 (16 * ((rd_T28 l0 x11_1).f1))) + ((rd_T28 l0 x11_1).f2))), (wrap64 (x11_1 + 1)), (by first | rfl | (simp; done) | (simp [*]; done)), (by first | rfl | (simp; done) | (simp [*]; done)), H', ⟨by have := HK1.out; omega⟩, ⟨qR (Kd.R_mono HO149.out (fun _ hk => trivial))⟩, ⟨qS1 GE102 HB.out⟩⟩
      replace c81 := Bool.eq_false_iff.mpr c81
      subst c81
      have H1 : (if y147.length < 140737488355328 then (wire_Encode.l0 k1 (y147 ++ [((rd_T28 l0 x11_1).f4) % 256]) (wrap64 ((wrap64 (16 * ((rd_T28 l0 x11_1).f1))) + ((rd_T28 l0 x11_1).f2))) l0 (l0.length : Int) (wrap64 (x11_1 + 1))) else (none)) = some (r1, r2) := by rw [if_neg (show ¬ (false = true) by decide)] at H; exact H
      clear H
      have H := H1
      clear H1
      by_cases c94 : y147.length < 140737488355328
      rotate_left
      · rw [if_neg c94] at H
        exact absurd H (by simp)
      rw [if_pos c94] at H
      have LMc94 := Aside0.mk c94
      clear c94
      obtain ⟨y151, hy151⟩ : ∃ y_ : List Int, y_ = (y147 ++ [((rd_T28 l0 x11_1).f4) % 256]) := ⟨_, rfl⟩
      replace H : (wire_Encode.l0 k1 y151 (wrap64 ((wrap64 (16 * ((rd_T28 l0 x11_1).f1))) + ((rd_T28 l0 x11_1).f2))) l0 (l0.length : Int) (wrap64 (x11_1 + 1))) = some (r1, r2) := by first | (rw [hy151]; with_reducible exact H) | (have H2_ := (Option.bind_some _ _).symm.trans H; rw [hy151]; with_reducible exact H2_) | (have H2_ := (Option.bind_some _ _).symm.trans H; with_reducible exact H2_) | with_reducible exact H | (rw [hy151]; exact H) | exact H
      have Ny151 := Aside0.mk hy151
      clear hy151
      have H' := Aside0.mk H
      clear H
      have p101 : 0 ≤ (x11_1 : Int) := of_decide_eq_true (by first | (with_reducible assumption) | assumption)
      have q101 : x11_1 < (l0.length : Int) := of_decide_eq_true (by first | (with_reducible assumption) | assumption)
      obtain ⟨ad101, e101, hx101_0, hx101_1, hx101_2, hx101_3, hx101_4, hx101_5⟩ := at_T28 HR0.out x11_1 p101 q101
      cases e101
      replace hx101_0 := (HB.out.cell (World.block_lt_of_cell? w _ hx101_0)).trans hx101_0
      replace hx101_1 := (HB.out.cell (World.block_lt_of_cell? w _ hx101_1)).trans hx101_1
      replace hx101_2 := (HB.out.cell (World.block_lt_of_cell? w _ hx101_2)).trans hx101_2
      replace hx101_3 := (HB.out.cell (World.block_lt_of_cell? w _ hx101_3)).trans hx101_3
      replace hx101_4 := (HB.out.cell (World.block_lt_of_cell? w _ hx101_4)).trans hx101_4
      replace hx101_5 := (HB.out.cell (World.block_lt_of_cell? w _ hx101_5)).trans hx101_5
      replace p101 := eq_true p101
      replace q101 := eq_true q101
      go_wp2_with (first | ((with_reducible refine gate_dst (N := 7) rfl ?_); refine box_event ?hg (N := 7) ?hd (cs := #[.int .i64 0, .int .i64 0, .int .i64 0, .int .i64 0, .int .i64 0, .string (⟨#[]⟩ : ByteArray)]) (t := 28) ?hr ?_; (case hd => rfl); (case hg => rfl); (case hr => first | (go_simp; done) | (go_simp; rfl)); intro gb102 hg w95 hbox hb; replace HO_4 := Aside0.mk (Kd.R_below (qR HO_4.out) hb); have BK102 := Aside0.mk (hbox); have GW102 := Aside0.mk ((by rw [hg]; exact (below_size (qB HB.out)) : w.heap.size ≤ gb102)); have GE102 := Aside0.mk ((by rw [hg]; exact (below_size (qB HB.out)) : w.heap.size ≤ gb102)); replace HB := Aside0.mk (below_step (qB HB.out) hb); clear hb hbox hg; obtain ⟨hcz96_0, hcz96_1, hcz96_2, hcz96_3, hcz96_4, hcz96_5, hfz96_0, hfz96_1, hfz96_2, hfz96_3, hfz96_4, hfz96_5⟩ := blk6 BK102.out) | ((with_reducible refine gate_callee (f := 35) rfl ?_); refine goesL_ (some 16) rfl rfl Try.func35 (by kernel_rfl) rfl #[.agg #[.int .i64 ((rd_T28 l0 x11_1).f0), .int .i64 ((rd_T28 l0 x11_1).f1), .int .i64 ((rd_T28 l0 x11_1).f2), .int .i64 ((rd_T28 l0 x11_1).f3), .int .i64 ((rd_T28 l0 x11_1).f4), .string ((rd_T28 l0 x11_1).f5)]] rfl (by (try simp only [List.map_toArray, List.map_cons, List.map_nil]); first | done | rfl | (simp only [List.length_drop, List.length_take]; rfl)) ?_; (with_reducible refine (wire_Right.calls k1 ((rd_T28 l0 x11_1).f0) ((rd_T28 l0 x11_1).f1) ((rd_T28 l0 x11_1).f2) ((rd_T28 l0 x11_1).f3) ((rd_T28 l0 x11_1).f4) ((rd_T28 l0 x11_1).f5) true _ A5.out).mono ?_); rintro e w97 ⟨rfl, hb⟩; refine ⟨_, rfl, ?_⟩; replace HO_4 := Aside0.mk (Kd.R_below (by (with_reducible repeat (first | apply Kd.R_alloc | apply Kd.R_drewN | apply Kd.R_drew)); exact (Kd.R_mono (Kd.R_far (p := ⟨gb102, 5, none⟩) (Kd.R_far (p := ⟨gb102, 4, none⟩) (Kd.R_far (p := ⟨gb102, 3, none⟩) (Kd.R_far (p := ⟨gb102, 2, none⟩) (Kd.R_far (p := ⟨gb102, 1, none⟩) (Kd.R_far (p := ⟨gb102, 0, none⟩) (Kd.R_types HO_4.out BK102.out (by decide)) (fun _ hk => hk.2) (.int .i64 ((rd_T28 l0 x11_1).f0))) (fun _ hk => hk.2) (.int .i64 ((rd_T28 l0 x11_1).f1))) (fun _ hk => hk.2) (.int .i64 ((rd_T28 l0 x11_1).f2))) (fun _ hk => hk.2) (.int .i64 ((rd_T28 l0 x11_1).f3))) (fun _ hk => hk.2) (.int .i64 ((rd_T28 l0 x11_1).f4))) (fun _ hk => hk.2) (.string ((rd_T28 l0 x11_1).f5))) (fun _ h_ => h_.1))) hb); replace BK102 := Aside0.mk (blk_below (g := gb102) (o := .cells #[.int .i64 ((rd_T28 l0 x11_1).f0), .int .i64 ((rd_T28 l0 x11_1).f1), .int .i64 ((rd_T28 l0 x11_1).f2), .int .i64 ((rd_T28 l0 x11_1).f3), .int .i64 ((rd_T28 l0 x11_1).f4), .string ((rd_T28 l0 x11_1).f5)] 28 (0, 0)) (by refine bq ?_; refine blk_put (cs := #[.int .i64 ((rd_T28 l0 x11_1).f0), .int .i64 ((rd_T28 l0 x11_1).f1), .int .i64 ((rd_T28 l0 x11_1).f2), .int .i64 ((rd_T28 l0 x11_1).f3), .int .i64 ((rd_T28 l0 x11_1).f4), .string (⟨#[]⟩ : ByteArray)]) ?_ 5 _ rfl; refine bq ?_; refine blk_put (cs := #[.int .i64 ((rd_T28 l0 x11_1).f0), .int .i64 ((rd_T28 l0 x11_1).f1), .int .i64 ((rd_T28 l0 x11_1).f2), .int .i64 ((rd_T28 l0 x11_1).f3), .int .i64 0, .string (⟨#[]⟩ : ByteArray)]) ?_ 4 _ rfl; refine bq ?_; refine blk_put (cs := #[.int .i64 ((rd_T28 l0 x11_1).f0), .int .i64 ((rd_T28 l0 x11_1).f1), .int .i64 ((rd_T28 l0 x11_1).f2), .int .i64 0, .int .i64 0, .string (⟨#[]⟩ : ByteArray)]) ?_ 3 _ rfl; refine bq ?_; refine blk_put (cs := #[.int .i64 ((rd_T28 l0 x11_1).f0), .int .i64 ((rd_T28 l0 x11_1).f1), .int .i64 0, .int .i64 0, .int .i64 0, .string (⟨#[]⟩ : ByteArray)]) ?_ 2 _ rfl; refine bq ?_; refine blk_put (cs := #[.int .i64 ((rd_T28 l0 x11_1).f0), .int .i64 0, .int .i64 0, .int .i64 0, .int .i64 0, .string (⟨#[]⟩ : ByteArray)]) ?_ 1 _ rfl; refine bq ?_; refine blk_put (cs := #[.int .i64 0, .int .i64 0, .int .i64 0, .int .i64 0, .int .i64 0, .string (⟨#[]⟩ : ByteArray)]) ?_ 0 _ rfl; exact bq BK102.out) hb); replace HB := Aside0.mk (below_step (qS1 GE102 HB.out) hb); (try clear hb); (try clear hb2); (try clear hk); (try clear hi); obtain ⟨hcz98_0, hcz98_1, hcz98_2, hcz98_3, hcz98_4, hcz98_5, hfz98_0, hfz98_1, hfz98_2, hfz98_3, hfz98_4, hfz98_5⟩ := blk6 BK102.out) | ((with_reducible refine gate_callee (f := 36) rfl ?_); refine goesL_ (some 21) rfl rfl Try.func36 (by kernel_rfl) rfl #[.int .i64 ((rd_T28 l0 x11_1).f0)] rfl (by (try simp only [List.map_toArray, List.map_cons, List.map_nil]); first | done | rfl | (simp only [List.length_drop, List.length_take]; rfl)) ?_; (with_reducible refine (wire_number.calls ((rd_T28 l0 x11_1).f0) t104 _ A7.out).mono ?_); rintro e w99 ⟨v105, rfl, ho0, hb⟩; refine ⟨_, rfl, ?_⟩; have HO106 := Aside0.mk (Kd.R_lower (Kd.R_new' ho0 (Kd.R_lt (qR HO_4.out))) (below_size (qS1 GE102 HB.out))); replace HO_4 := Aside0.mk (Kd.R_elder' (qR HO_4.out) (Kd.R_base ho0) hb); replace BK102 := Aside0.mk (blk_below (bq BK102.out) hb); replace HB := Aside0.mk (below_step (qS1 GE102 HB.out) hb); (try clear hb); (try clear hb2); (try clear hk); (try clear hi); (try clear ho0); obtain ⟨Ao101, co101, eo101⟩ := Kd.R_slice HO106.out; subst eo101) | ((with_reducible refine gate_builtin (b := .append) (xs := #[.tmp 18, .tmp 21]) rfl ?_); at_builtin; refine Kd.R_append_rows (Kd.int .u8) (w0 := w) w.heap.size rfl (.tmp 18) (.tmp 21) 39 5 (.int .u8 0) 1 rfl Try.underlying39 info5 rfl (by decide) (by omega) u4 x4_1 t104 _ _ _ (fun k_ => some k_ ≠ (.slice Ao101 t104.length co101 : Value).ownBlock) (fun _ => False) rfl rfl ?aO ?aR (fun _ _ h => h) (fun _ h => h.elim) ?aF ?aB ?aS ?aL ?_; (case aR => repeat (first | exact (Kd.R_reads' HO106.out).2.2 | (with_reducible refine Kd.C_alloc ?_ _) | (with_reducible refine Kd.C_drewN ?_ _) | (with_reducible refine Kd.C_drew ?_))); (case aB => exact (qS1 GE102 HB.out)); (case aF => exact (fun k_ hk => Kd.fresh' (Kd.R_lt (qR HO106.out)) k_ hk)); (case aO => exact (by (with_reducible repeat (first | apply Kd.R_alloc | apply Kd.R_drewN | apply Kd.R_drew)); exact Kd.R_mono HO_4.out (fun _ hk => hk.2))); (case aS => exact (below_size (qS1 GE102 HB.out))); (case aL => have := LMc8.out; omega); intro v108 w100 ho hb hg hat; rw [← Ny107.out] at ho; replace BK102 := Aside0.mk (blk_grown (bq BK102.out) hg (Kd.R_ne HO_4.out BK102.out (by decide))); replace HO106 := Aside0.mk (Kd.R_after (ok := (fun _ => True)) (qR HO106.out) hg hat); replace HB := Aside0.mk (hb); have HO109 := Aside0.mk (ho); clear HO_4; clear ho hb hg hat; obtain ⟨hcz102_0, hcz102_1, hcz102_2, hcz102_3, hcz102_4, hcz102_5, hfz102_0, hfz102_1, hfz102_2, hfz102_3, hfz102_4, hfz102_5⟩ := blk6 BK102.out) | ((with_reducible refine gate_builtin (b := .append) (xs := #[.tmp 57, .tmp 60]) rfl ?_); at_builtin; refine Kd.R_append (Kd.int .u8) (w0 := w) w.heap.size rfl (.tmp 57) (.tmp 60) 39 5 (.int .u8 0) 1 rfl Try.underlying39 info5 rfl (by decide) (by omega) v108 y107 ((wrap64 ((wrap64 (16 * ((rd_T28 l0 x11_1).f1))) + ((rd_T28 l0 x11_1).f2))) % 256) [.int .u8 ((wrap64 ((wrap64 (16 * ((rd_T28 l0 x11_1).f1))) + ((rd_T28 l0 x11_1).f2))) % 256)] (fun k_ => some k_ ≠ (.slice Ao101 t104.length co101 : Value).ownBlock) (fun _ => False) rfl rfl ?aP (fun _ hk => hk.elim) ?aF ?aO ?aB ?aS ?aL ?_; (case aP => exact rfl); (case aB => exact (qS1 GE102 HB.out)); (case aF => exact (fun k_ hk => Kd.fresh' (Kd.R_lt (qR HO106.out)) k_ hk)); (case aO => exact (qR HO109.out)); (case aS => exact (below_size (qS1 GE102 HB.out))); (case aL => have := LMc78.out; omega); intro v145 w103 ho hb hg hat; rw [← Ny144.out] at ho; replace BK102 := Aside0.mk (blk_grown (bq BK102.out) hg (Kd.R_ne HO109.out BK102.out (by decide))); replace HO106 := Aside0.mk (Kd.R_after (ok := (fun _ => True)) (qR HO106.out) hg hat); replace HB := Aside0.mk (hb); have HO146 := Aside0.mk (ho); clear HO109; clear ho hb hg hat; obtain ⟨hcz104_0, hcz104_1, hcz104_2, hcz104_3, hcz104_4, hcz104_5, hfz104_0, hfz104_1, hfz104_2, hfz104_3, hfz104_4, hfz104_5⟩ := blk6 BK102.out) | ((with_reducible refine gate_builtin (b := .append) (xs := #[.tmp 62, .tmp 66]) rfl ?_); at_builtin; refine Kd.R_append (Kd.int .u8) (w0 := w) w.heap.size rfl (.tmp 62) (.tmp 66) 39 5 (.int .u8 0) 1 rfl Try.underlying39 info5 rfl (by decide) (by omega) v145 y144 (((rd_T28 l0 x11_1).f3) % 256) [.int .u8 (((rd_T28 l0 x11_1).f3) % 256)] (fun k_ => some k_ ≠ (.slice Ao101 t104.length co101 : Value).ownBlock) (fun _ => False) rfl rfl ?aP (fun _ hk => hk.elim) ?aF ?aO ?aB ?aS ?aL ?_; (case aP => exact rfl); (case aB => exact (qS1 GE102 HB.out)); (case aF => exact (fun k_ hk => Kd.fresh' (Kd.R_lt (qR HO106.out)) k_ hk)); (case aO => exact (qR HO146.out)); (case aS => exact (below_size (qS1 GE102 HB.out))); (case aL => have := LMc79.out; omega); intro v148 w105 ho hb hg hat; rw [← Ny147.out] at ho; replace BK102 := Aside0.mk (blk_grown (bq BK102.out) hg (Kd.R_ne HO146.out BK102.out (by decide))); replace HO106 := Aside0.mk (Kd.R_after (ok := (fun _ => True)) (qR HO106.out) hg hat); replace HB := Aside0.mk (hb); have HO149 := Aside0.mk (ho); clear HO146; clear ho hb hg hat; obtain ⟨hcz106_0, hcz106_1, hcz106_2, hcz106_3, hcz106_4, hcz106_5, hfz106_0, hfz106_1, hfz106_2, hfz106_3, hfz106_4, hfz106_5⟩ := blk6 BK102.out) | ((with_reducible refine gate_callee (f := 37) rfl ?_); refine goesL_ (some 70) rfl rfl Try.func37 (by kernel_rfl) rfl #[.int .i64 ((rd_T28 l0 x11_1).f1)] rfl (by (try simp only [List.map_toArray, List.map_cons, List.map_nil]); first | done | rfl | (simp only [List.length_drop, List.length_take]; rfl)) ?_; (with_reducible refine (wire_one.calls ((rd_T28 l0 x11_1).f1) false _ A80.out).mono ?_); rintro e w' ⟨rfl, ⟨nd, rfl⟩⟩; refine ⟨_, rfl, ?_⟩) | ((with_reducible refine gate_builtin (b := .append) (xs := #[.tmp 72, .tmp 76]) rfl ?_); at_builtin; refine Kd.R_append (Kd.int .u8) (w0 := w) w.heap.size rfl (.tmp 72) (.tmp 76) 39 5 (.int .u8 0) 1 rfl Try.underlying39 info5 rfl (by decide) (by omega) v148 y147 (((rd_T28 l0 x11_1).f4) % 256) [.int .u8 (((rd_T28 l0 x11_1).f4) % 256)] (fun k_ => some k_ ≠ (.slice Ao101 t104.length co101 : Value).ownBlock) (fun _ => False) rfl rfl ?aP (fun _ hk => hk.elim) ?aF ?aO ?aB ?aS ?aL ?_; (case aP => exact rfl); (case aB => exact (qS1 GE102 HB.out)); (case aF => exact (fun k_ hk => Kd.fresh' (Kd.R_lt (qR HO106.out)) k_ hk)); (case aO => exact (qR HO149.out)); (case aS => exact (below_size (qS1 GE102 HB.out))); (case aL => have := LMc94.out; omega); intro v152 w107 ho hb hg hat; rw [← Ny151.out] at ho; replace BK102 := Aside0.mk (blk_grown (bq BK102.out) hg (Kd.R_ne HO149.out BK102.out (by decide))); replace HO106 := Aside0.mk (Kd.R_after (ok := (fun _ => True)) (qR HO106.out) hg hat); replace HB := Aside0.mk (hb); have HO153 := Aside0.mk (ho); clear HO149; clear ho hb hg hat))
      go_roundg k1
      case measure => have := HK1.out; omega
      case rel => exact ⟨(y151), (wrap64 ((wrap64 (16 * ((rd_T28 l0 x11_1).f1))) + ((rd_T28 l0 x11_1).f2))), (wrap64 (x11_1 + 1)), (by first | rfl | (simp; done) | (simp [*]; done)), (by first | rfl | (simp; done) | (simp [*]; done)), H', ⟨by have := HK1.out; omega⟩, ⟨qR (Kd.R_mono HO153.out (fun _ hk => trivial))⟩, ⟨qS1 GE102 HB.out⟩⟩
end Go.Proofs.Ytdmnknhlibaaoaa.M
namespace Go.Proofs.Ytdmnknhlibaaoaa.Z
open Go.RowKit Go.Proofs.YtdmnknhlibaaoaaW.PrintWords Go.Proofs.YtdmnknhlibaaoaaW.PrintLast Go.Proofs.Ytdmnknhlibaaoaa.M
set_option linter.unusedVariables false
theorem num_eq (n : Int) : wire_number.num n = num n := rfl
theorem number_f {n : Int} (h0 : 0 ≤ n) (h1 : n ≤ 268435455) : wire_number.f n = some (num n) := by
  unfold wire_number.f
  rw [if_pos h0, if_pos h1]
  rfl
theorem counts_f (n : Int) : wire_counts.f n = some (decide (0 ≤ n ∧ n ≤ 268435455)) := by
  unfold wire_counts.f
  by_cases h : n ≥ 0
  · rw [if_pos h]
    congr 1
    rw [Bool.eq_iff_iff, decide_eq_true_eq, decide_eq_true_eq]
    omega
  · rw [if_neg h]
    congr 1
    rw [Bool.eq_iff_iff, decide_eq_true_eq]
    constructor
    · intro h; cases h
    · omega
def vlqAns (s : ByteArray) (r : List Int) (j : Nat) (n : Int) : Int × Int × Int :=
  match vlq j n r with
  | .error e => (0, 0, e)
  | .ok (m, r') => (m, s.size - r'.length, 0)
theorem rv_l0 (s : ByteArray) (a : Int) (h0 : 0 ≤ a) (hs : s.size ≤ 140737488351232) : ∀ (j : Nat) (n : Int) (k : Nat), j ≤ 4 → j < k → 0 ≤ n → (n + 1) * 128 ^ j ≤ 268435456 → a + (4 - j) ≤ s.size →
    wire_ReadVlq.l0 k s a n (4 - j) = some (vlqAns s ((bytesOf s).drop (a + (4 - j)).toNat) j n)
  | 0, n, k, _, hk, _, _, _ => by
    obtain ⟨k, rfl⟩ : ∃ m, k = m + 1 := ⟨k - 1, by omega⟩
    simp only [wire_ReadVlq.l0]
    rw [if_neg (by omega)]
    rfl
  | j + 1, n, k, hj, hk, hn, hb, hp => by
    obtain ⟨k, rfl⟩ : ∃ m, k = m + 1 := ⟨k - 1, by omega⟩
    have e1 : wrap64 (a + (4 - ((j + 1 : Nat) : Int))) = a + (4 - ((j + 1 : Nat) : Int)) := w64 (by omega) (by omega)
    simp only [wire_ReadVlq.l0]
    rw [if_pos (by omega), e1]
    have hp2 : (1 : Int) ≤ 128 ^ j := by
      have : (0 : Int) < 128 ^ j := Int.pow_pos (by decide)
      omega
    have hb2 : n + 1 ≤ 268435456 ∧ (n + 1) * 128 * 128 ^ j ≤ 268435456 := by
      rw [Int.pow_succ, Int.mul_comm (128 ^ j) 128, ← Int.mul_assoc] at hb
      refine ⟨?_, hb⟩
      have := Int.mul_le_mul_of_nonneg_left hp2 (show 0 ≤ (n + 1) * 128 by omega)
      omega
    by_cases c1 : a + (4 - ((j + 1 : Nat) : Int)) ≥ (s.size : Int)
    · rw [if_pos c1]
      unfold vlqAns
      rw [drop_end s _ (by omega), vlq_nil]
    · have hr := bt_range s (a + (4 - ((j + 1 : Nat) : Int)))
      have e2 : wrap64 (bt s (a + (4 - ((j + 1 : Nat) : Int)))) = bt s (a + (4 - ((j + 1 : Nat) : Int))) := w64 (by omega) (by omega)
      have e3 : wrap64 (n * 128) = n * 128 := w64 (by omega) (by omega)
      rw [if_neg c1, if_pos (by omega), if_pos (by omega), e2, e3]
      unfold vlqAns
      rw [drop_at s _ (by omega) (by omega)]
      generalize hc : bt s (a + (4 - ((j + 1 : Nat) : Int))) = c at *
      by_cases c2 : c < 128
      · rw [if_pos c2, vlq_lo c2]
        have e4 : Int.tmod c 128 = c := by rw [Int.tmod_eq_emod_of_nonneg hr.1]; omega
        rw [e4, w64 (by omega) (by omega), w64 (by omega) (by omega)]
        have hl := drop_len s (a + (4 - ((j + 1 : Nat) : Int)) + 1) (by omega) (by omega)
        dsimp only
        rw [hl]
        congr 2
        congr 1
        omega
      · rw [if_neg c2, vlq_hi c2]
        have e4 : Int.tmod c 128 = c - 128 := by rw [Int.tmod_eq_emod_of_nonneg hr.1]; omega
        rw [e4, w64 (by omega) (by omega), w64 (by omega) (by omega)]
        have hb3 : (n * 128 + (c - 128) + 1) * 128 ^ j ≤ 268435456 := by
          have := Int.mul_le_mul_of_nonneg_right (show n * 128 + (c - 128) + 1 ≤ (n + 1) * 128 by omega) (show (0 : Int) ≤ 128 ^ j by omega)
          omega
        have ih := rv_l0 s a h0 hs j (n * 128 + (c - 128)) k (by omega) (by omega) (by omega) hb3 (by omega)
        have e5 : (4 - ((j + 1 : Nat) : Int)) + 1 = 4 - (j : Int) := by omega
        have e6 : a + (4 - ((j + 1 : Nat) : Int)) + 1 = a + (4 - (j : Int)) := by omega
        rw [e5, ih, e6]
        rfl
theorem readVlq_f (s : ByteArray) (a : Int) (k : Nat) (hk : 7 ≤ k) (h0 : 0 ≤ a) (h1 : a ≤ s.size) (hs : s.size ≤ 140737488351232) :
    wire_ReadVlq.f k s a = some (vlqAns s ((bytesOf s).drop a.toNat) 4 0) := by
  unfold wire_ReadVlq.f
  rw [if_neg (by omega)]
  obtain ⟨k, rfl⟩ : ∃ m, k = m + 1 := ⟨k - 1, by omega⟩
  simp only [wire_ReadVlq.j0]
  rw [if_neg (by rw [decide_eq_true_eq]; omega)]
  have h := rv_l0 s a h0 hs 4 0 k (by omega) (by omega) (by omega) (by decide) (by omega)
  have e : (4 : Int) - ((4 : Nat) : Int) = 0 := by omega
  rw [e, Int.add_zero] at h
  exact h
theorem readVlq_out (s : ByteArray) (a : Int) (k : Nat) (hk : 7 ≤ k) (h : a < 0 ∨ (s.size : Int) < a) : wire_ReadVlq.f k s a = some (0, 0, 2) := by
  unfold wire_ReadVlq.f
  obtain ⟨k, rfl⟩ : ∃ m, k = m + 1 := ⟨k - 1, by omega⟩
  by_cases c : a < 0
  · rw [if_pos c]
    simp only [wire_ReadVlq.j0]
    rfl
  · rw [if_neg c]
    simp only [wire_ReadVlq.j0]
    rw [if_pos (by rw [decide_eq_true_eq]; omega)]
theorem within_f (a b c : Int) : wire_within.f a b c = some (decide (b ≤ a ∧ a ≤ c)) := by
  unfold wire_within.f
  by_cases h : a ≥ b
  · rw [if_pos h]
    congr 1
    rw [Bool.eq_iff_iff, decide_eq_true_eq, decide_eq_true_eq]
    omega
  · rw [if_neg h]
    congr 1
    rw [Bool.eq_iff_iff, decide_eq_true_eq]
    constructor
    · intro h; cases h
    · omega
theorem one_f (a : Int) : wire_one.f a = some (decide (a = 12 ∨ a = 13)) := by
  unfold wire_one.f
  by_cases h : a = 12
  · rw [if_pos h]; simp [h]
  · rw [if_neg h]
    congr 1
    rw [Bool.eq_iff_iff, decide_eq_true_eq, beq_iff_eq]
    omega
theorem ite_to {α : Type} {p : Prop} [Decidable p] {a b c : α} (h1 : p → a = c) (h2 : ¬ p → b = c) : (if p then a else b) = c := by
  by_cases h : p
  · rw [if_pos h]; exact h1 h
  · rw [if_neg h]; exact h2 h
set_option maxHeartbeats 1000000 in
theorem right_f (m : Msg) (k : Nat) (hk : 6 ≤ k) : wire_Right.f k m.f0 m.f1 m.f2 m.f3 m.f4 m.f5 = some (decide (Right m)) := by
  obtain ⟨f0, f1, f2, f3, f4, f5⟩ := m
  obtain ⟨k, rfl⟩ : ∃ q, k = q + 6 := ⟨k - 6, by omega⟩
  have hd := toList_nil f5
  generalize hD : decide (Right ⟨f0, f1, f2, f3, f4, f5⟩) = D
  have hR : D = true ↔ (0 ≤ f0 ∧ f0 ≤ 268435455 ∧ f5.size ≤ 100000 ∧ ((8 ≤ f1 ∧ f1 ≤ 14 ∧ 0 ≤ f2 ∧ f2 ≤ 15 ∧ 0 ≤ f3 ∧ f3 ≤ 127 ∧ 0 ≤ f4 ∧ f4 ≤ 127 ∧ (f1 = 12 ∨ f1 = 13 → f4 = 0) ∧ f5.size = 0) ∨
   (f1 = 15 ∧ f2 = 0 ∧ f4 = 0 ∧ (f3 = 240 ∨ f3 = 247)) ∨ (f1 = 16 ∧ f2 = 0 ∧ f4 = 0 ∧ 0 ≤ f3 ∧ f3 ≤ 127))) := by
    rw [← hD, decide_eq_true_eq]; rfl
  clear hD
  simp only [wire_Right.f, wire_Right.j0, wire_Right.j1, wire_Right.j2, wire_Right.j3, wire_Right.j4, counts_f, within_f, Option.bind_some, decide_eq_true_eq, beq_iff_eq, hd, Bool.false_eq_true, if_false, if_true]
  repeat' (refine ite_to (fun _ => ?_) (fun _ => ?_))
  all_goals
    refine congrArg some ?_
    rw [Bool.eq_iff_iff, hR]
    simp only [decide_eq_true_eq, beq_iff_eq, Bool.false_eq_true, false_iff, true_iff]
    omega
end Go.Proofs.Ytdmnknhlibaaoaa.Z
namespace Go.Proofs.Ytdmnknhlibaaoaa.Z
open Go.RowKit Go.Proofs.YtdmnknhlibaaoaaW.PrintWords Go.Proofs.YtdmnknhlibaaoaaW.PrintLast Go.Proofs.Ytdmnknhlibaaoaa.M
set_option linter.unusedVariables false
def Suf (s : ByteArray) (r : List Int) : Prop := ∃ p, bytesOf s = p ++ r
def pos (s : ByteArray) (r : List Int) : Int := s.size - r.length
theorem Suf.all (s : ByteArray) : Suf s (bytesOf s) := ⟨[], rfl⟩
theorem Suf.of {s : ByteArray} {p r : List Int} (h : Suf s (p ++ r)) : Suf s r := by
  obtain ⟨q, hq⟩ := h
  exact ⟨q ++ p, by rw [hq, List.append_assoc]⟩
theorem Suf.tail {s : ByteArray} {c : Int} {r : List Int} (h : Suf s (c :: r)) : Suf s r := Suf.of (p := [c]) h
theorem Suf.len {s : ByteArray} {r : List Int} (h : Suf s r) : (r.length : Int) ≤ s.size := by
  obtain ⟨p, hp⟩ := h
  have := congrArg List.length hp
  rw [bytesOf_length, List.length_append] at this
  omega
theorem Suf.bytes {s : ByteArray} {r : List Int} (h : Suf s r) : Bytes r := by
  obtain ⟨p, hp⟩ := h
  have := bytesOf_bytes s
  rw [hp] at this
  exact this.right
theorem pos_all (s : ByteArray) : pos s (bytesOf s) = 0 := by unfold pos; rw [bytesOf_length]; omega
theorem pos_nonneg {s : ByteArray} {r : List Int} (h : Suf s r) : 0 ≤ pos s r := by have := h.len; unfold pos; omega
theorem pos_le (s : ByteArray) (r : List Int) : pos s r ≤ s.size := by unfold pos; omega
theorem pos_drop {s : ByteArray} {r : List Int} (h : Suf s r) : (bytesOf s).drop (pos s r).toNat = r := by
  have hl := h.len
  obtain ⟨p, hp⟩ := h
  have := congrArg List.length hp
  rw [bytesOf_length, List.length_append] at this
  have e : (pos s r).toNat = p.length := by unfold pos; omega
  rw [e, hp, List.drop_left]
theorem pos_cons {s : ByteArray} {c : Int} {r : List Int} : pos s r = pos s (c :: r) + 1 := by unfold pos; rw [List.length_cons]; omega
theorem pos_lt {s : ByteArray} {c : Int} {r : List Int} : pos s (c :: r) < s.size := by unfold pos; rw [List.length_cons]; omega
theorem pos_nil (s : ByteArray) : pos s [] = s.size := by unfold pos; simp
theorem bt_pos {s : ByteArray} {c : Int} {r : List Int} (h : Suf s (c :: r)) : bt s (pos s (c :: r)) = c := by
  have h1 := drop_at s (pos s (c :: r)) (pos_nonneg h) pos_lt
  rw [pos_drop h] at h1
  injection h1 with h1 _
  exact h1.symm
theorem vlq_suf {i : Nat} {n m : Int} {s : ByteArray} {r r' : List Int} (h : Suf s r) (hv : vlq i n r = .ok (m, r')) : Suf s r' := by
  obtain ⟨p, rfl, _⟩ := vlq_ok h.bytes hv
  exact h.of
theorem dat_suf {bs r' : List Int} {s : ByteArray} {r : List Int} (h : Suf s r) (hv : dat r = .ok (bs, r')) : Suf s r' := by
  obtain ⟨_, _, p, rfl, _⟩ := dat_ok h.bytes hv
  exact h.of.of
theorem low_suf {a : Int} {r' : List Int} {s : ByteArray} {r : List Int} (h : Suf s r) (hv : low r = .ok (a, r')) : Suf s r' := by
  obtain ⟨rfl, _⟩ := low_ok hv
  exact h.tail
section
variable {s : ByteArray} {r : List Int} {last : Int} {k : Nat}
theorem fail0 (at_ e : Int) : wire_reader_fail.f s at_ last 0 e = some (s, at_, last, e) := by unfold wire_reader_fail.f; rw [if_pos rfl]
theorem number_r (hk : 7 ≤ k) (hs : s.size ≤ 140737488351232) (h : Suf s r) : wire_reader_number.f k s (pos s r) last 0 = some (match vlq 4 0 r with
    | .error e => (0, s, pos s r, last, e)
    | .ok (n, r') => (n, s, pos s r', last, 0)) := by
  unfold wire_reader_number.f
  rw [if_pos rfl, readVlq_f s _ k hk (pos_nonneg h) (pos_le s r) hs, pos_drop h]
  unfold vlqAns
  cases hv : vlq 4 0 r with
  | error e =>
    rw [Option.bind_some]
    dsimp only
    rcases vlq_e hv with rfl | rfl
    · rw [if_neg (by decide), fail0]; rfl
    · rw [if_neg (by decide), fail0]; rfl
  | ok x =>
    obtain ⟨n, r'⟩ := x
    rw [Option.bind_some]
    dsimp only
    rw [if_pos rfl]
    rfl
theorem number_e {e at_ : Int} (he : e ≠ 0) : wire_reader_number.f k s at_ last e = some (0, s, at_, last, e) := by
  unfold wire_reader_number.f
  rw [if_neg he]
theorem data_r (hs : s.size ≤ 140737488351232) (h : Suf s r) : wire_reader_data.f s (pos s r) last 0 = some (match low r with
    | .error e => (0, s, pos s r, last, e)
    | .ok (a, r') => (a, s, pos s r', last, 0)) := by
  unfold wire_reader_data.f
  rw [if_pos rfl]
  cases r with
  | nil => rw [pos_nil, if_pos (by omega), fail0]; rfl
  | cons c r =>
    have hp := pos_lt (s := s) (c := c) (r := r)
    have hp0 := pos_nonneg h
    have hc := h.bytes.head
    rw [if_neg (by omega), if_pos hp0, if_pos hp, bt_pos h, w64 (by omega) (by omega)]
    by_cases c1 : c ≥ 128
    · rw [if_pos c1, fail0, low, if_pos c1]; rfl
    · rw [if_neg c1, low, if_neg c1, w64 (by omega) (by omega), ← pos_cons]
theorem data_e {e at_ : Int} (he : e ≠ 0) : wire_reader_data.f s at_ last e = some (0, s, at_, last, e) := by
  unfold wire_reader_data.f
  rw [if_neg he]
theorem bytes_r (hk : 7 ≤ k) (hs : s.size ≤ 140737488351232) (h : Suf s r) : match dat r with
    | .error e => ∃ a, wire_reader_bytes.f k s (pos s r) last 0 = some (⟨#[]⟩, s, a, last, e)
    | .ok (bs, r') => wire_reader_bytes.f k s (pos s r) last 0 = some (strOfNums bs, s, pos s r', last, 0) := by
  unfold wire_reader_bytes.f
  rw [number_r hk hs h]
  unfold dat
  cases hv : vlq 4 0 r with
  | error e =>
    rw [Option.bind_some]
    dsimp only
    have he : e ≠ 0 := by rcases vlq_e hv with rfl | rfl <;> decide
    rw [if_neg he]
    exact ⟨_, rfl⟩
  | ok x =>
    obtain ⟨n, r1⟩ := x
    obtain ⟨h0, h1, _⟩ := vlq4_ok h.bytes hv
    have h2 := vlq_suf h hv
    have hp0 := pos_nonneg h2
    have hpl := pos_le s r1
    have hpe : pos s r1 = s.size - r1.length := rfl
    rw [Option.bind_some]
    dsimp only
    rw [if_pos rfl]
    by_cases c1 : n > 100000
    · rw [if_pos c1, if_pos c1, fail0]
      exact ⟨_, rfl⟩
    · rw [if_neg c1, if_neg c1, w64 (by omega) (by omega)]
      by_cases c2 : n > r1.length
      · rw [if_pos c2, if_pos (by omega), fail0]
        exact ⟨_, rfl⟩
      · rw [if_neg c2, if_neg (by omega), if_pos (by omega), if_pos (by omega), if_pos (by omega)]
        dsimp only
        have e1 : s.extract (pos s r1).toNat (pos s r1 + n).toNat = strOfNums (r1.take n.toNat) := by
          apply bytesOf_inj
          rw [bytesOf_extract, pos_drop h2, bytesOf_str (h2.bytes.take _)]
          congr 1
          omega
        have e2 : pos s r1 + n = pos s (r1.drop n.toNat) := by
          unfold pos
          rw [List.length_drop]
          omega
        rw [e1, e2]
theorem bytes_e {e at_ : Int} (he : e ≠ 0) : wire_reader_bytes.f k s at_ last e = some (⟨#[]⟩, s, at_, last, e) := by
  unfold wire_reader_bytes.f
  rw [number_e he, Option.bind_some]
  dsimp only
  rw [if_neg he]
theorem status_e {e at_ : Int} (he : e ≠ 0) : wire_reader_status.f s at_ last e = some (0, s, at_, last, e) := by
  unfold wire_reader_status.f
  rw [if_neg he]
theorem status_nil : wire_reader_status.f s (pos s []) last 0 = some (0, s, pos s [], last, 152) := by
  unfold wire_reader_status.f
  rw [if_pos rfl, pos_nil, if_pos (by omega), fail0]; rfl
theorem status_lo {c : Int} {r1 : List Int} (hs : s.size ≤ 140737488351232) (h : Suf s (c :: r1)) (hc : c < 128) :
    wire_reader_status.f s (pos s (c :: r1)) last 0 = if last = 0 then some (last, s, pos s (c :: r1), last, 151) else some (last, s, pos s (c :: r1), last, 0) := by
  have hp := pos_lt (s := s) (c := c) (r := r1)
  have hp0 := pos_nonneg h
  have hcb := h.bytes.head
  unfold wire_reader_status.f
  rw [if_pos rfl, if_neg (by omega), if_pos hp0, if_pos hp, bt_pos h, w64 (by omega) (by omega), if_pos hc, fail0]
  rfl
theorem status_hi {c : Int} {r1 : List Int} (hs : s.size ≤ 140737488351232) (h : Suf s (c :: r1)) (hc : ¬ c < 128) :
    wire_reader_status.f s (pos s (c :: r1)) last 0 = some (c, s, pos s r1, last, if c > 240 ∧ c ≠ 247 ∧ c ≠ 255 then 151 else 0) := by
  have hp := pos_lt (s := s) (c := c) (r := r1)
  have hp0 := pos_nonneg h
  have hcb := h.bytes.head
  unfold wire_reader_status.f
  rw [if_pos rfl, if_neg (by omega), if_pos hp0, if_pos hp, bt_pos h, w64 (by omega) (by omega), if_neg hc, fail0, w64 (by omega) (by omega), ← pos_cons]
  by_cases c1 : c > 240
  · rw [if_pos c1]
    by_cases c2 : c = 247
    · rw [if_pos c2, if_neg (by omega)]
    · rw [if_neg c2]
      by_cases c3 : c = 255
      · rw [if_pos c3, if_neg (by omega)]
      · rw [if_neg c3, if_pos ⟨c1, c2, c3⟩, Option.bind_some]
        dsimp only
        rw [w64 (by omega) (by omega), ← pos_cons]
  · rw [if_neg c1, if_neg (by omega)]
def rest (k : Nat) (d c : Int) (s : ByteArray) (a last e : Int) : Option (Int × Int × Int × Int × Int × ByteArray × ByteArray × Int × Int × Int) :=
  if c = 255 then ((wire_reader_data.f s a 0 e).bind fun bt216 => ((wire_reader_bytes.f k bt216.2.1 bt216.2.2.1 bt216.2.2.2.1 bt216.2.2.2.2).bind fun bt221 => (some (d, 16, 0, bt216.1, 0, bt221.1, bt221.2.1, bt221.2.2.1, bt221.2.2.2.1, bt221.2.2.2.2))))
  else (if c ≥ 240 then ((wire_reader_bytes.f k s a 0 e).bind fun bt226 => (some (d, 15, 0, c, 0, bt226.1, bt226.2.1, bt226.2.2.1, bt226.2.2.2.1, bt226.2.2.2.2)))
  else ((wire_reader_data.f s a c e).bind fun bt231 => ((wire_one.f (wrap64 (Int.tdiv c 16))).bind fun t236 => (if t236 = true then (some (d, wrap64 (Int.tdiv c 16), Int.tmod c 16, bt231.1, 0, (⟨#[]⟩ : ByteArray), bt231.2.1, bt231.2.2.1, bt231.2.2.2.1, bt231.2.2.2.2)) else ((wire_reader_data.f bt231.2.1 bt231.2.2.1 bt231.2.2.2.1 bt231.2.2.2.2).bind fun bt237 => (some (d, wrap64 (Int.tdiv c 16), Int.tmod c 16, bt231.1, bt237.1, (⟨#[]⟩ : ByteArray), bt237.2.1, bt237.2.2.1, bt237.2.2.2.1, bt237.2.2.2.2)))))))
theorem message_rest (a last e : Int) : wire_reader_message.f k s a last e = (wire_reader_number.f k s a last e).bind fun x => (wire_reader_status.f x.2.1 x.2.2.1 x.2.2.2.1 x.2.2.2.2).bind fun y => rest k x.1 y.1 y.2.1 y.2.2.1 y.2.2.2.1 y.2.2.2.2 := rfl
theorem rest_e {d c a e : Int} (he : e ≠ 0) : ∃ t, rest k d c s a last e = some t ∧ t.2.2.2.2.2.2.2.2.2 = e := by
  unfold rest
  rw [data_e he, data_e he, bytes_e he, one_f]
  simp only [Option.bind_some]
  rw [bytes_e he, data_e he]
  simp only [Option.bind_some]
  by_cases c1 : c = 255
  · rw [if_pos c1]; exact ⟨_, rfl, rfl⟩
  · rw [if_neg c1]
    by_cases c2 : c ≥ 240
    · rw [if_pos c2]; exact ⟨_, rfl, rfl⟩
    · rw [if_neg c2]
      split
      · exact ⟨_, rfl, rfl⟩
      · exact ⟨_, rfl, rfl⟩
theorem low_e {e : Int} (h : low r = .error e) : e = 151 ∨ e = 152 := by
  cases r with
  | nil => cases h; exact .inr rfl
  | cons c r =>
    by_cases c1 : c ≥ 128
    · rw [low, if_pos c1] at h; cases h; exact .inl rfl
    · rw [low, if_neg c1] at h; cases h
theorem dat_e {e : Int} (h : dat r = .error e) : e = 150 ∨ e = 151 ∨ e = 152 := by
  unfold dat at h
  cases hv : vlq 4 0 r with
  | error e' =>
    rw [hv] at h; injection h with h; subst h
    rcases vlq_e hv with rfl | rfl
    · exact .inl rfl
    · exact .inr (.inr rfl)
  | ok x =>
    obtain ⟨n, r1⟩ := x
    rw [hv] at h
    dsimp only at h
    by_cases c1 : n > 100000
    · rw [if_pos c1] at h; cases h; exact .inr (.inl rfl)
    · rw [if_neg c1] at h
      by_cases c2 : n > r1.length
      · rw [if_pos c2] at h; cases h; exact .inr (.inr rfl)
      · rw [if_neg c2] at h; cases h
def Told (x : Except Int (Msg × Int × List Int)) (s : ByteArray) (o : Option (Int × Int × Int × Int × Int × ByteArray × ByteArray × Int × Int × Int)) : Prop :=
  match x with
  | .error e => e ≠ 0 ∧ ∃ t, o = some t ∧ t.2.2.2.2.2.2.2.2.2 = e
  | .ok (m, l', r') => Suf s r' ∧ o = some (m.f0, m.f1, m.f2, m.f3, m.f4, m.f5, s, pos s r', l', 0)
theorem rest_r {d c : Int} (hk : 7 ≤ k) (hs : s.size ≤ 140737488351232) (h : Suf s r) (h1 : 128 ≤ c) (h2 : c ≤ 255) : Told (body d c r) s (rest k d c s (pos s r) last 0) := by
  unfold rest
  by_cases c1 : c = 255
  · subst c1
    rw [if_pos rfl, body_255, data_r hs h, Option.bind_some]
    cases hl : low r with
    | error e =>
      dsimp only
      have he : e ≠ 0 := by rcases low_e hl with rfl | rfl <;> decide
      rw [bytes_e he]
      exact ⟨he, _, rfl, rfl⟩
    | ok x =>
      obtain ⟨a, r1⟩ := x
      dsimp only
      have hb := bytes_r (k := k) (last := 0) hk hs (low_suf h hl)
      cases hd : dat r1 with
      | error e =>
        rw [hd] at hb
        obtain ⟨q, hb⟩ := hb
        rw [hb]
        refine ⟨by rcases dat_e hd with rfl | rfl | rfl <;> decide, _, rfl, rfl⟩
      | ok y =>
        obtain ⟨bs, r2⟩ := y
        rw [hd] at hb
        dsimp only at hb
        rw [hb]
        exact ⟨dat_suf (low_suf h hl) hd, rfl⟩
  · rw [if_neg c1]
    by_cases c2 : c ≥ 240
    · rw [if_pos c2, body_sys c1 c2]
      have hb := bytes_r (k := k) (last := 0) hk hs h
      cases hd : dat r with
      | error e =>
        rw [hd] at hb
        obtain ⟨q, hb⟩ := hb
        rw [hb]
        refine ⟨by rcases dat_e hd with rfl | rfl | rfl <;> decide, _, rfl, rfl⟩
      | ok y =>
        obtain ⟨bs, r2⟩ := y
        rw [hd] at hb
        dsimp only at hb
        rw [hb]
        exact ⟨dat_suf h hd, rfl⟩
    · rw [if_neg c2, body_key (by omega), data_r hs h, Option.bind_some, one_f, Option.bind_some]
      have e1 : wrap64 (Int.tdiv c 16) = c / 16 := by rw [Int.tdiv_eq_ediv_of_nonneg (by omega)]; exact w64 (by omega) (by omega)
      have e2 : Int.tmod c 16 = c % 16 := Int.tmod_eq_emod_of_nonneg (by omega)
      rw [e1, e2]
      cases hl : low r with
      | error e =>
        dsimp only
        have he : e ≠ 0 := by rcases low_e hl with rfl | rfl <;> decide
        rw [data_e he]
        refine ⟨he, ?_⟩
        split
        · exact ⟨_, rfl, rfl⟩
        · exact ⟨_, rfl, rfl⟩
      | ok x =>
        obtain ⟨a, r1⟩ := x
        dsimp only
        have h3 := low_suf h hl
        by_cases c3 : c / 16 = 12 ∨ c / 16 = 13
        · rw [if_pos c3, if_pos (decide_eq_true c3)]
          exact ⟨h3, rfl⟩
        · rw [if_neg c3, if_neg (by rw [decide_eq_true_eq]; exact c3), data_r hs h3, Option.bind_some]
          cases hl2 : low r1 with
          | error e =>
            exact ⟨by rcases low_e hl2 with rfl | rfl <;> decide, _, rfl, rfl⟩
          | ok y =>
            obtain ⟨b, r2⟩ := y
            exact ⟨low_suf h3 hl2, rfl⟩
theorem message_r (hk : 7 ≤ k) (hs : s.size ≤ 140737488351232) (h : Suf s r) (hl : LastOk last) : Told (msg last r) s (wire_reader_message.f k s (pos s r) last 0) := by
  rw [message_rest, number_r hk hs h, Option.bind_some]
  cases hv : vlq 4 0 r with
  | error e =>
    have he : e ≠ 0 := by rcases vlq_e hv with rfl | rfl <;> decide
    unfold msg
    rw [hv]
    dsimp only
    rw [status_e he, Option.bind_some]
    exact ⟨he, rest_e he⟩
  | ok x =>
    obtain ⟨d, r1⟩ := x
    have h2 := vlq_suf h hv
    cases r1 with
    | nil =>
      unfold msg
      rw [hv]
      dsimp only
      rw [status_nil, Option.bind_some]
      exact ⟨by decide, rest_e (show (152 : Int) ≠ 0 by decide)⟩
    | cons c r1 =>
      rw [msg_at hv]
      dsimp only
      by_cases c1 : c < 128
      · rw [if_pos c1, status_lo hs h2 c1]
        by_cases c2 : last = 0
        · rw [if_pos c2, if_pos c2, Option.bind_some]
          exact ⟨by decide, rest_e (show (151 : Int) ≠ 0 by decide)⟩
        · rw [if_neg c2, if_neg c2, Option.bind_some]
          have hl2 : 128 ≤ last ∧ last < 240 := by rcases hl with hl | hl <;> omega
          exact rest_r hk hs h2 hl2.1 (by omega)
      · have hc := h2.bytes.head
        rw [if_neg c1, status_hi hs h2 c1, Option.bind_some]
        by_cases c2 : c > 240 ∧ c ≠ 247 ∧ c ≠ 255
        · rw [if_pos c2]
          dsimp only
          rw [if_pos c2]
          exact ⟨by decide, rest_e (by decide)⟩
        · rw [if_neg c2]
          dsimp only
          rw [if_neg c2]
          exact rest_r hk hs h2.tail (by omega) hc.2
end
theorem decode_l0 {s : ByteArray} (hs : s.size ≤ 1000000000) : ∀ {l : Int} {r : List Int} {ms : List Msg}, Dec l r ms → LastOk l → Suf s r → ∀ (out : List Msg) (k : Nat), out.length + r.length ≤ 1000000000 → ms.length + 8 < k →
    wire_Decode.l0 k s out s (pos s r) l = some (out ++ ms, 0, 0)
  | l, _, _, .nil _, hl, h, out, k, _, hk => by
    obtain ⟨k, rfl⟩ : ∃ m, k = m + 1 := ⟨k - 1, by omega⟩
    simp only [wire_Decode.l0]
    rw [pos_nil, if_neg (by omega), List.append_nil]
  | l, r, _, .cons (m := m) (ms := ms) (r' := r') (l' := l') hm hd, hl, h, out, k, ho, hk => by
    rw [List.length_cons] at hk
    obtain ⟨k, rfl⟩ : ∃ m, k = m + 1 := ⟨k - 1, by omega⟩
    have ht := message_r (k := k) (by omega) (by omega) h hl
    rw [hm] at ht
    obtain ⟨h1, h2⟩ := ht
    obtain ⟨k1, rfl, p, hp, k3, k4⟩ := msg_ok hl h.bytes hm
    have hlen : r.length = p.length + r'.length := by rw [hp, List.length_append]
    have hlt : pos s r < s.size := by unfold pos; omega
    simp only [wire_Decode.l0]
    rw [if_pos hlt, h2, Option.bind_some]
    dsimp only
    rw [if_pos rfl, if_pos (by omega)]
    have ih := decode_l0 hs hd (nextL_ok k1) h1 (out ++ [m]) k (by rw [List.length_append, List.length_singleton]; omega) (by omega)
    rw [List.append_assoc] at ih
    exact ih
theorem decode_bad {s : ByteArray} (hs : s.size ≤ 1000000000) {l e : Int} {r : List Int} {n : Nat} (hd : Bad l r e n) : LastOk l → Suf s r → ∀ (out : List Msg), out.length + r.length ≤ 1000000000 →
    ∃ K, ∀ k, K ≤ k → wire_Decode.l0 k s out s (pos s r) l = some ([], (s.size : Int) - (n : Int), e) := by
  induction hd with
  | @here l e r hne hm =>
    intro hl h out _
    refine ⟨9, fun k hk => ?_⟩
    obtain ⟨k, rfl⟩ : ∃ m, k = m + 1 := ⟨k - 1, by omega⟩
    have ht := message_r (k := k) (by omega) (by omega) h hl
    rw [hm] at ht
    obtain ⟨he, t, h1, h2⟩ := ht
    have hlt : pos s r < s.size := by
      have := List.length_pos_iff.2 hne
      unfold pos; omega
    simp only [wire_Decode.l0]
    rw [if_pos hlt, h1, Option.bind_some, h2, if_neg he]
    rfl
  | @later l l' e r r' m n hm _ ih =>
    intro hl h out ho
    obtain ⟨k1, rfl, p, hp, k3, k4⟩ := msg_ok hl h.bytes hm
    have hlen : r.length = p.length + r'.length := by rw [hp, List.length_append]
    have hsuf : Suf s r' := by rw [hp] at h; exact h.of
    obtain ⟨K, hK⟩ := ih (nextL_ok k1) hsuf (out ++ [m]) (by rw [List.length_append, List.length_singleton]; omega)
    refine ⟨K + 9, fun k hk => ?_⟩
    obtain ⟨k, rfl⟩ : ∃ m, k = m + 1 := ⟨k - 1, by omega⟩
    have ht := message_r (k := k) (by omega) (by omega) h hl
    rw [hm] at ht
    obtain ⟨h1, h2⟩ := ht
    have hlt : pos s r < s.size := by unfold pos; omega
    simp only [wire_Decode.l0]
    rw [if_pos hlt, h2, Option.bind_some]
    dsimp only
    rw [if_pos rfl, if_pos (by omega)]
    exact hK k (by omega)
theorem decode_ok {s : ByteArray} (hs : s.size ≤ 1000000000) {ms : List Msg} (h : Dec 0 (bytesOf s) ms) : Ev (fun k => wire_Decode.f k s) (ms, 0, 0) := by
  refine ⟨ms.length + 9, fun k hk => ?_⟩
  have h1 := decode_l0 hs h (.inl rfl) (Suf.all s) [] k (by rw [bytesOf_length]; simpa using hs) (by omega)
  rw [pos_all] at h1
  exact h1
theorem decode_err {s : ByteArray} (hs : s.size ≤ 1000000000) {e : Int} {n : Nat} (h : Bad 0 (bytesOf s) e n) : Ev (fun k => wire_Decode.f k s) ([], (s.size : Int) - (n : Int), e) := by
  obtain ⟨K, hK⟩ := decode_bad hs h (.inl rfl) (Suf.all s) [] (by rw [bytesOf_length]; simpa using hs)
  refine ⟨K, fun k hk => ?_⟩
  have h1 := hK k hk
  rw [pos_all] at h1
  exact h1
end Go.Proofs.Ytdmnknhlibaaoaa.Z
namespace Go.Proofs.Ytdmnknhlibaaoaa.Z
open Go.RowKit Go.Proofs.YtdmnknhlibaaoaaW.PrintWords Go.Proofs.YtdmnknhlibaaoaaW.PrintLast Go.Proofs.Ytdmnknhlibaaoaa.M
set_option linter.unusedVariables false
def tot : List Msg → Nat
  | [] => 0
  | m :: ms => m.f5.size + 10 + tot ms
theorem rd_drop (l : List Msg) (i : Nat) (h : i < l.length) : l.drop i = rd_T28 l (i : Int) :: l.drop (i + 1) := by
  rw [List.drop_eq_getElem_cons h]
  unfold rd_T28
  rw [Int.toNat_natCast, List.getD_eq_getElem?_getD, List.getElem?_eq_getElem h]
  rfl
theorem encode_step (k : Nat) (out : List Int) (last : Int) (l : List Msg) (i : Nat) (hi : i < l.length) (hk : 6 ≤ k) (hl : l.length ≤ 1000000000) (hr : Right (rd_T28 l (i : Int))) (ho : out.length + (rd_T28 l (i : Int)).f5.size + 10 ≤ 2000000000) :
    wire_Encode.l0 (k + 1) out last l (l.length : Int) (i : Int) = wire_Encode.l0 k (out ++ encOne last (rd_T28 l (i : Int))) (nextL (rd_T28 l (i : Int))) l (l.length : Int) ((i + 1 : Nat) : Int) := by
  simp only [wire_Encode.l0]
  have e1 : wrap64 ((i : Int) + 1) = ((i + 1 : Nat) : Int) := by rw [w64 (by omega) (by omega)]; omega
  rw [if_pos (by omega), if_pos (by omega), if_pos (by omega), right_f _ k hk, decide_eq_true hr, Option.bind_some, if_pos rfl, e1]
  generalize hm : rd_T28 l (i : Int) = m at *
  obtain ⟨f0, f1, f2, f3, f4, f5⟩ := m
  obtain ⟨h0, h1, h2, h⟩ := hr
  dsimp only at h0 h1 h2 h ho ⊢
  have hn := (num_len f0).2
  have hn2 := (num_len f5.size).2
  have hbl := bytesOf_length f5
  rw [number_f h0 h1, Option.bind_some, number_f (by omega) (by omega), if_pos (by omega), Option.bind_some]
  unfold encOne nextL
  dsimp only
  rcases h with ⟨k1, k2, k3, k4, k5, k6, k7, k8, k9, k10⟩ | ⟨rfl, rfl, rfl, kk⟩ | ⟨rfl, rfl, rfl, k1, k2⟩
  · have ew : wrap64 (wrap64 (16 * f1) + f2) = 16 * f1 + f2 := by rw [w64 (x := 16 * f1) (by omega) (by omega)]; exact w64 (by omega) (by omega)
    have e3 : f3 % 256 = f3 := by omega
    have e4 : f4 % 256 = f4 := by omega
    have e5 : (16 * f1 + f2) % 256 = 16 * f1 + f2 := by omega
    rw [if_neg (show ¬ f1 = 16 by omega), if_neg (show ¬ f1 = 15 by omega), if_neg (show ¬ f1 = 16 by omega), if_neg (show ¬ f1 = 15 by omega), if_neg (show ¬ f1 = 16 by omega), if_neg (show ¬ f1 = 15 by omega), ew, e3, e4, e5, one_f]
    simp only [Option.bind_some, decide_eq_true_eq, List.length_append, List.length_cons, List.length_nil]
    by_cases c1 : 16 * f1 + f2 = last
    · rw [if_pos c1, if_pos c1, if_pos (by omega)]
      by_cases c2 : f1 = 12 ∨ f1 = 13
      · rw [if_pos c2, if_pos c2]; simp only [List.append_assoc, List.nil_append]
      · rw [if_neg c2, if_neg c2, if_pos (by omega)]; simp only [List.append_assoc, List.nil_append, List.cons_append]
    · rw [if_neg c1, if_neg c1, if_pos (by omega), if_pos (by omega)]
      by_cases c2 : f1 = 12 ∨ f1 = 13
      · rw [if_pos c2, if_pos c2]; simp only [List.append_assoc, List.nil_append, List.cons_append]
      · rw [if_neg c2, if_neg c2, if_pos (by omega)]; simp only [List.append_assoc, List.nil_append, List.cons_append]
  · have e3 : f3 % 256 = f3 := by omega
    rw [if_neg (show ¬ (15 : Int) = 16 by decide), if_pos (show (15 : Int) = 15 from rfl), if_neg (show ¬ (15 : Int) = 16 by decide), if_pos (show (15 : Int) = 15 from rfl), if_neg (show ¬ (15 : Int) = 16 by decide), if_pos (show (15 : Int) = 15 from rfl), e3]
    simp only [Option.bind_some, List.length_append, List.length_cons, List.length_nil]
    rw [if_pos (by omega), if_pos (by omega), if_pos (by omega)]
    simp only [List.append_assoc, List.nil_append, List.cons_append]
  · have e3 : f3 % 256 = f3 := by omega
    rw [if_pos (show (16 : Int) = 16 from rfl), if_pos (show (16 : Int) = 16 from rfl), if_pos (show (16 : Int) = 16 from rfl), e3]
    simp only [Option.bind_some, List.length_append, List.length_cons, List.length_nil]
    rw [if_pos (by omega), if_pos (by omega), if_pos (by omega), if_pos (by omega)]
    simp only [List.append_assoc, List.nil_append, List.cons_append]
theorem encOne_size (l : Int) (m : Msg) : (encOne l m).length ≤ m.f5.size + 10 := by
  have a1 := (num_len m.f0).2
  have a2 := (num_len m.f5.size).2
  unfold encOne
  split
  · simp only [List.length_append, List.length_cons, bytesOf_length]; omega
  · split
    · simp only [List.length_append, List.length_cons, bytesOf_length]; omega
    · simp only [List.length_append, List.length_cons]
      split <;> split <;> simp <;> omega
theorem encode_l0 (l : List Msg) (hl : l.length ≤ 1000000000) : ∀ (j i : Nat) (out : List Int) (last : Int) (k : Nat), i + j = l.length → Rights (l.drop i) → out.length + tot (l.drop i) ≤ 1000000000 → j + 7 < k →
    wire_Encode.l0 k out last l (l.length : Int) (i : Int) = some (strOfNums (out ++ enc last (l.drop i)), 0)
  | 0, i, out, last, k, hj, _, _, hk => by
    obtain ⟨k, rfl⟩ : ∃ m, k = m + 1 := ⟨k - 1, by omega⟩
    simp only [wire_Encode.l0]
    rw [if_neg (by omega), List.drop_of_length_le (by omega), enc_nil, List.append_nil]
  | j + 1, i, out, last, k, hj, hr, ho, hk => by
    obtain ⟨k, rfl⟩ : ∃ m, k = m + 1 := ⟨k - 1, by omega⟩
    have hi : i < l.length := by omega
    rw [rd_drop l i hi] at hr ho ⊢
    simp only [tot] at ho
    rw [encode_step k out last l i hi (by omega) hl hr.head (by omega)]
    have hsz := encOne_size last (rd_T28 l (i : Int))
    rw [encode_l0 l hl j (i + 1) _ _ k (by omega) hr.tail (by rw [List.length_append]; omega) (by omega), enc_cons, List.append_assoc]
theorem encode_wrong (l : List Msg) (hl : l.length ≤ 1000000000) : ∀ (j i : Nat) (out : List Int) (last : Int) (k : Nat), i + j = l.length → ¬ Rights (l.drop i) → out.length + tot (l.drop i) ≤ 1000000000 → j + 7 < k →
    wire_Encode.l0 k out last l (l.length : Int) (i : Int) = some (⟨#[]⟩, 151)
  | 0, i, out, last, k, hj, hr, _, hk => by
    rw [List.drop_of_length_le (by omega)] at hr
    exact absurd Rights.nil hr
  | j + 1, i, out, last, k, hj, hr, ho, hk => by
    obtain ⟨k, rfl⟩ : ∃ m, k = m + 1 := ⟨k - 1, by omega⟩
    have hi : i < l.length := by omega
    rw [rd_drop l i hi] at hr ho
    simp only [tot] at ho
    by_cases h1 : Right (rd_T28 l (i : Int))
    · rw [encode_step k out last l i hi (by omega) hl h1 (by omega)]
      have hsz := encOne_size last (rd_T28 l (i : Int))
      exact encode_wrong l hl j (i + 1) _ _ k (by omega) (fun h2 => hr (Rights.cons h1 h2)) (by rw [List.length_append]; omega) (by omega)
    · simp only [wire_Encode.l0]
      rw [if_pos (by omega), if_pos (by omega), if_pos (by omega), right_f _ k (by omega), decide_eq_false h1, Option.bind_some, if_neg (by decide)]
theorem tot_len {l : List Msg} (h : tot l ≤ 1000000000) : l.length ≤ 1000000000 := by
  have : ∀ l : List Msg, l.length ≤ tot l := by
    intro l
    induction l with
    | nil => simp [tot]
    | cons m ms ih => simp only [tot, List.length_cons]; omega
  have := this l
  omega
theorem encode_ok {l : List Msg} (hr : Rights l) (ht : tot l ≤ 1000000000) : Ev (fun k => wire_Encode.f k l) (strOfNums (enc 0 l), 0) :=
  ⟨l.length + 8, fun k hk => by
    have h := encode_l0 l (tot_len ht) l.length 0 [] 0 k (by omega) (by simpa using hr) (by simpa using ht) (by omega)
    show wire_Encode.l0 k [] 0 l (l.length : Int) 0 = _
    simpa using h⟩
theorem encode_err {l : List Msg} (hr : ¬ Rights l) (ht : tot l ≤ 1000000000) : Ev (fun k => wire_Encode.f k l) (⟨#[]⟩, 151) :=
  ⟨l.length + 8, fun k hk => by
    have h := encode_wrong l (tot_len ht) l.length 0 [] 0 k (by omega) (by simpa using hr) (by simpa using ht) (by omega)
    show wire_Encode.l0 k [] 0 l (l.length : Int) 0 = _
    simpa using h⟩
theorem encOne_bytes {m : Msg} (hm : Right m) {l : Int} : Bytes (encOne l m) := by
  obtain ⟨f0, f1, f2, f3, f4, f5⟩ := m
  obtain ⟨h0, h1, h2, h⟩ := hm
  unfold encOne
  dsimp only at h0 h1 h2 h ⊢
  have a := num_bytes h0
  have b := num_bytes (n := f5.size) (by omega)
  have c := bytesOf_bytes f5
  split
  · exact a.append (Bytes.cons (by decide) (by decide) (Bytes.cons (by omega) (by omega) (b.append c)))
  · split
    · exact a.append (Bytes.cons (by omega) (by omega) (b.append c))
    · refine a.append (Bytes.append ?_ (Bytes.cons (by omega) (by omega) ?_))
      · split
        · exact Bytes.nil
        · exact Bytes.cons (by omega) (by omega) Bytes.nil
      · split
        · exact Bytes.nil
        · exact Bytes.cons (by omega) (by omega) Bytes.nil
theorem enc_bytes : ∀ {ms : List Msg} {l : Int}, Rights ms → Bytes (enc l ms)
  | [], _, _ => Bytes.nil
  | m :: ms, l, h => by
    rw [enc_cons]
    exact (encOne_bytes h.head).append (enc_bytes h.tail)
theorem enc_tot : ∀ (ms : List Msg) (l : Int), (enc l ms).length ≤ tot ms
  | [], _ => Nat.le_refl _
  | m :: ms, l => by
    have h1 := encOne_size l m
    have h2 := enc_tot ms (nextL m)
    rw [enc_cons, List.length_append]
    simp only [tot]
    omega
end Go.Proofs.Ytdmnknhlibaaoaa.Z
namespace Go.Proofs.Ytdmnknhlibaaoaa.M
open Go.RowKit Go.Proofs.YtdmnknhlibaaoaaW.PrintWords Go.Proofs.YtdmnknhlibaaoaaW.PrintLast Go.Proofs.YtdmnknhlibaaoaaW.PrintMore
attribute [local go_sem] max2_int min2_int max_two min_two max_three min_three max_four min_four
set_option linter.unusedVariables false
set_option linter.unusedSimpArgs false
def smf_Check_1.f (k : Nat) (a0_0 : Int) (a0_1 : Int) (a0_2 : Int) (a0_3 : Int) (a0_4 : Int) (a0_5 : ByteArray) : Option (Bool) := (wire_Right.f k a0_0 a0_1 a0_2 a0_3 a0_4 a0_5).bind fun t102 => (some (!t102))
theorem smf_Check_1.mono : ∀ a0 a1 a2 a3 a4 a5 k, LeO (smf_Check_1.f k a0 a1 a2 a3 a4 a5) (smf_Check_1.f (k + 1) a0 a1 a2 a3 a4 a5) := by
  intro a0 a1 a2 a3 a4 a5 k
  unfold smf_Check_1.f
  repeat' first
      | (with_reducible exact wire_Right.mono _ _ _ _ _ _ _)
      | (with_reducible exact LeO.refl _)
      | (with_reducible exact LeO.none _)
      | (with_reducible refine LeO.ite ?_ ?_)
      | (with_reducible refine LeO.bind ?_ (fun _ => ?_))
      | exact wire_Right.mono _ _ _ _ _ _ _
      | exact LeO.none _
      | refine LeO.ite ?_ ?_
      | refine LeO.bind ?_ (fun _ => ?_)
set_option maxHeartbeats 8000000 in
set_option maxRecDepth 100000 in
theorem smf_Check_1.calls (k : Nat) (a0_0 : Int) (a0_1 : Int) (a0_2 : Int) (a0_3 : Int) (a0_4 : Int) (a0_5 : ByteArray) (r : Bool) (w : World) (h : smf_Check_1.f k a0_0 a0_1 a0_2 a0_3 a0_4 a0_5 = some r) :
    Calls Try.prog 38 #[.agg #[.int .i64 a0_0, .int .i64 a0_1, .int .i64 a0_2, .int .i64 a0_3, .int .i64 a0_4, .string a0_5]] w fun e w' => e = .returned (.bool r) ∧ Below w.heap.size w w' := by
  have hu28 := Try.underlying28
  have HB := Aside0.mk (Below.refl w.heap.size w)
  have H : ((wire_Right.f k a0_0 a0_1 a0_2 a0_3 a0_4 a0_5).bind fun t102 => (some (!t102))) = some r := h
  clear h
  replace H := Option.bind_eq_some_iff.mp H
  obtain ⟨t102, A20, H⟩ := H
  replace H : (some (!t102)) = some r := H
  have A2 := Aside0.mk A20
  clear A20
  obtain rfl := Option.some.inj H
  go_enter Try.func38, Try.ntmps38
  go_wp2_with (first | ((with_reducible refine gate_dst (N := 1) rfl ?_); refine box_event ?hg (N := 1) ?hd (cs := #[.int .i64 a0_0, .int .i64 a0_1, .int .i64 a0_2, .int .i64 a0_3, .int .i64 a0_4, .string a0_5]) (t := 28) ?hr ?_; (case hd => rfl); (case hg => rfl); (case hr => first | (go_simp; done) | (go_simp; rfl)); intro gb101 hg w3 hbox hb; have BK101 := Aside0.mk (hbox); have GW101 := Aside0.mk ((by rw [hg]; exact (below_size (qB HB.out)) : w.heap.size ≤ gb101)); have GE101 := Aside0.mk ((by rw [hg]; exact (below_size (qB HB.out)) : w.heap.size ≤ gb101)); replace HB := Aside0.mk (below_step (qB HB.out) hb); clear hb hbox hg; obtain ⟨hcz4_0, hcz4_1, hcz4_2, hcz4_3, hcz4_4, hcz4_5, hfz4_0, hfz4_1, hfz4_2, hfz4_3, hfz4_4, hfz4_5⟩ := blk6 BK101.out) | ((with_reducible refine gate_callee (f := 35) rfl ?_); refine goesL_ (some 4) rfl rfl Try.func35 (by kernel_rfl) rfl #[.agg #[.int .i64 a0_0, .int .i64 a0_1, .int .i64 a0_2, .int .i64 a0_3, .int .i64 a0_4, .string a0_5]] rfl (by (try simp only [List.map_toArray, List.map_cons, List.map_nil]); first | done | rfl | (simp only [List.length_drop, List.length_take]; rfl)) ?_; (with_reducible refine (wire_Right.calls k a0_0 a0_1 a0_2 a0_3 a0_4 a0_5 t102 _ A2.out).mono ?_); rintro e w5 ⟨rfl, hb⟩; refine ⟨_, rfl, ?_⟩; replace BK101 := Aside0.mk (blk_below (bq BK101.out) hb); replace HB := Aside0.mk (below_step (qS1 GE101 HB.out) hb); (try clear hb); (try clear hb2); (try clear hk); (try clear hi)))
  go_ret
  exact ⟨by first | rfl | (simp [errW_none, errW_some] <;> rfl) | (simp [*, errW_none, errW_some] <;> rfl), qS1 GE101 HB.out⟩
end Go.Proofs.Ytdmnknhlibaaoaa.M
namespace Go.Proofs.Ytdmnknhlibaaoaa.M
open Go.RowKit Go.Proofs.YtdmnknhlibaaoaaW.PrintWords Go.Proofs.YtdmnknhlibaaoaaW.PrintLast Go.Proofs.YtdmnknhlibaaoaaW.PrintMore
attribute [local go_sem] max2_int min2_int max_two min_two max_three min_three max_four min_four
set_option linter.unusedVariables false
set_option linter.unusedSimpArgs false
def smf_Parse_1.l0 : Nat → List (S28) → Int → Int → Option (Int)
  | 0, _, _, _ => none
  | k + 1, x0, x7, x8 => if x8 < x7 then (if 0 ≤ x8 then (if x8 < (x0.length : Int) then ((smf_Check_1.f k ((rd_T28 x0 x8).f0) ((rd_T28 x0 x8).f1) ((rd_T28 x0 x8).f2) ((rd_T28 x0 x8).f3) ((rd_T28 x0 x8).f4) ((rd_T28 x0 x8).f5)).bind fun t102 => (if t102 = true then (some x8) else (smf_Parse_1.l0 k x0 x7 (wrap64 (x8 + 1))))) else (none)) else (none)) else (some (-1))
def smf_Parse_1.f (k : Nat) (l0 : List (S28)) : Option (Int) := smf_Parse_1.l0 k l0 (l0.length : Int) 0
theorem smf_Parse_1.mono_l : ∀ k, (∀ y0 y1 y2, LeO (smf_Parse_1.l0 k y0 y1 y2) (smf_Parse_1.l0 (k + 1) y0 y1 y2))
  | 0 => fun _ _ _ r h => by simp [smf_Parse_1.l0] at h
  | k + 1 => by
    have ih0 := smf_Parse_1.mono_l k
    · intro y0 y1 y2
      unfold smf_Parse_1.l0
      repeat' first
      | (with_reducible exact ih0 _ _ _)
      | (with_reducible exact smf_Check_1.mono _ _ _ _ _ _ _)
      | (with_reducible exact LeO.refl _)
      | (with_reducible exact LeO.none _)
      | (with_reducible refine LeO.ite ?_ ?_)
      | (with_reducible refine LeO.bind ?_ (fun _ => ?_))
      | exact ih0 _ _ _
      | exact smf_Check_1.mono _ _ _ _ _ _ _
      | exact LeO.none _
      | refine LeO.ite ?_ ?_
      | refine LeO.bind ?_ (fun _ => ?_)
theorem smf_Parse_1.mono : ∀ a0 k, LeO (smf_Parse_1.f k a0) (smf_Parse_1.f (k + 1) a0) := by
  intro a0 k
  have ih0 := smf_Parse_1.mono_l k
  unfold smf_Parse_1.f
  repeat' first
      | (with_reducible exact ih0 _ _ _)
      | (with_reducible exact smf_Check_1.mono _ _ _ _ _ _ _)
      | (with_reducible exact LeO.refl _)
      | (with_reducible exact LeO.none _)
      | (with_reducible refine LeO.ite ?_ ?_)
      | (with_reducible refine LeO.bind ?_ (fun _ => ?_))
      | exact ih0 _ _ _
      | exact smf_Check_1.mono _ _ _ _ _ _ _
      | exact LeO.none _
      | refine LeO.ite ?_ ?_
      | refine LeO.bind ?_ (fun _ => ?_)
set_option maxHeartbeats 8000000 in
set_option maxRecDepth 100000 in
theorem smf_Parse_1.calls (k : Nat) (A0 : Option Addr) (c0 : Nat) (l0 : List (S28)) (r : Int) (w : World) (hr0 : Kd.C k28 w A0 l0.length l0) (hc0 : l0.length ≤ c0) (h : smf_Parse_1.f k l0 = some r) :
    Calls Try.prog 60 #[.slice A0 l0.length c0, .func (.func 38) #[] #[]] w fun e w' => e = .returned (.int .i64 r) ∧ Below w.heap.size w w' := by
  have hu28 := Try.underlying28
  have HR0 := Aside0.mk hr0
  have HC0 := Aside0.mk hc0
  clear hr0 hc0
  have HB := Aside0.mk (Below.refl w.heap.size w)
  have H : (smf_Parse_1.l0 k l0 (l0.length : Int) 0) = some r := h
  clear h
  have H' := Aside0.mk H
  clear H
  go_enter Try.func60, Try.ntmps60
  go_wp2
  go_loopg [8] k (fun kq v8 w' => ∃ (x8_1 : Int), v8 = .int .i64 x8_1 ∧ Aside0 (smf_Parse_1.l0 kq l0 (l0.length : Int) x8_1 = some r) ∧ Aside0 (kq ≤ k) ∧ Aside0 (Below w.heap.size w w'))
  case atStart => exact ⟨(0), (by first | rfl | (simp; done) | (simp [*]; done)), H', ⟨Nat.le_refl _⟩, ⟨qB HB.out⟩⟩
  case round =>
    clear H'
    obtain ⟨x8_1, rfl, HA, HK1, HB⟩ := hrel
    cases gk with
    | zero => exact absurd HA.out (by simp [smf_Parse_1.l0])
    | succ k1 =>
      have H := HA.out
      clear HA
      simp only [smf_Parse_1.l0] at H
      by_cases c2 : x8_1 < (l0.length : Int)
      rotate_left
      · rw [if_neg c2] at H
        have c2b0 : decide (x8_1 < (l0.length : Int)) = false := decide_eq_false c2
        clear c2
        obtain rfl := Option.some.inj H
        go_wp2
        go_ret
        exact ⟨by first | rfl | (simp [errW_none, errW_some] <;> rfl) | (simp [*, errW_none, errW_some] <;> rfl), qB HB.out⟩
      rw [if_pos c2] at H
      have c2b0 : decide (x8_1 < (l0.length : Int)) = true := decide_eq_true c2
      clear c2
      by_cases c3 : 0 ≤ x8_1
      rotate_left
      · rw [if_neg c3] at H
        exact absurd H (by simp)
      rw [if_pos c3] at H
      have c3b0 : decide (0 ≤ x8_1) = true := decide_eq_true c3
      clear c3
      by_cases c4 : x8_1 < (l0.length : Int)
      rotate_left
      · rw [if_neg c4] at H
        exact absurd H (by simp)
      rw [if_pos c4] at H
      have c4b0 : decide (x8_1 < (l0.length : Int)) = true := decide_eq_true c4
      clear c4
      replace H := Option.bind_eq_some_iff.mp H
      obtain ⟨t102, A50, H⟩ := H
      replace H : (if t102 = true then (some x8_1) else (smf_Parse_1.l0 k1 l0 (l0.length : Int) (wrap64 (x8_1 + 1)))) = some r := H
      have A5 := Aside0.mk A50
      clear A50
      by_cases c6 : t102 = true
      · subst c6
        have H1 : (some x8_1) = some r := by rw [if_pos rfl] at H; exact H
        clear H
        have H := H1
        clear H1
        obtain rfl := Option.some.inj H
        have p101 : 0 ≤ (x8_1 : Int) := of_decide_eq_true (by first | (with_reducible assumption) | assumption)
        have q101 : x8_1 < (l0.length : Int) := of_decide_eq_true (by first | (with_reducible assumption) | assumption)
        obtain ⟨ad101, e101, hx101_0, hx101_1, hx101_2, hx101_3, hx101_4, hx101_5⟩ := at_T28 HR0.out x8_1 p101 q101
        cases e101
        replace hx101_0 := (HB.out.cell (World.block_lt_of_cell? w _ hx101_0)).trans hx101_0
        replace hx101_1 := (HB.out.cell (World.block_lt_of_cell? w _ hx101_1)).trans hx101_1
        replace hx101_2 := (HB.out.cell (World.block_lt_of_cell? w _ hx101_2)).trans hx101_2
        replace hx101_3 := (HB.out.cell (World.block_lt_of_cell? w _ hx101_3)).trans hx101_3
        replace hx101_4 := (HB.out.cell (World.block_lt_of_cell? w _ hx101_4)).trans hx101_4
        replace hx101_5 := (HB.out.cell (World.block_lt_of_cell? w _ hx101_5)).trans hx101_5
        replace p101 := eq_true p101
        replace q101 := eq_true q101
        go_wp2_with (first | (refine goesV_ (some 16) rfl rfl Try.func38 (by kernel_rfl) rfl #[.agg #[.int .i64 ((rd_T28 l0 x8_1).f0), .int .i64 ((rd_T28 l0 x8_1).f1), .int .i64 ((rd_T28 l0 x8_1).f2), .int .i64 ((rd_T28 l0 x8_1).f3), .int .i64 ((rd_T28 l0 x8_1).f4), .string ((rd_T28 l0 x8_1).f5)]] rfl (by (try simp only [List.map_toArray, List.map_cons, List.map_nil]); first | done | rfl | (simp only [List.length_drop, List.length_take]; rfl)) ?_; (with_reducible refine (smf_Check_1.calls k1 ((rd_T28 l0 x8_1).f0) ((rd_T28 l0 x8_1).f1) ((rd_T28 l0 x8_1).f2) ((rd_T28 l0 x8_1).f3) ((rd_T28 l0 x8_1).f4) ((rd_T28 l0 x8_1).f5) true _ A5.out).mono ?_); rintro e w7 ⟨rfl, hb⟩; refine ⟨_, rfl, ?_⟩; replace HB := Aside0.mk (below_step (qB HB.out) hb); (try clear hb); (try clear hb2); (try clear hk); (try clear hi)))
        go_ret
        exact ⟨by first | rfl | (simp [errW_none, errW_some] <;> rfl) | (simp [*, errW_none, errW_some] <;> rfl), qB HB.out⟩
      replace c6 := Bool.eq_false_iff.mpr c6
      subst c6
      have H1 : (smf_Parse_1.l0 k1 l0 (l0.length : Int) (wrap64 (x8_1 + 1))) = some r := by rw [if_neg (show ¬ (false = true) by decide)] at H; exact H
      clear H
      have H := H1
      clear H1
      have H' := Aside0.mk H
      clear H
      have p101 : 0 ≤ (x8_1 : Int) := of_decide_eq_true (by first | (with_reducible assumption) | assumption)
      have q101 : x8_1 < (l0.length : Int) := of_decide_eq_true (by first | (with_reducible assumption) | assumption)
      obtain ⟨ad101, e101, hx101_0, hx101_1, hx101_2, hx101_3, hx101_4, hx101_5⟩ := at_T28 HR0.out x8_1 p101 q101
      cases e101
      replace hx101_0 := (HB.out.cell (World.block_lt_of_cell? w _ hx101_0)).trans hx101_0
      replace hx101_1 := (HB.out.cell (World.block_lt_of_cell? w _ hx101_1)).trans hx101_1
      replace hx101_2 := (HB.out.cell (World.block_lt_of_cell? w _ hx101_2)).trans hx101_2
      replace hx101_3 := (HB.out.cell (World.block_lt_of_cell? w _ hx101_3)).trans hx101_3
      replace hx101_4 := (HB.out.cell (World.block_lt_of_cell? w _ hx101_4)).trans hx101_4
      replace hx101_5 := (HB.out.cell (World.block_lt_of_cell? w _ hx101_5)).trans hx101_5
      replace p101 := eq_true p101
      replace q101 := eq_true q101
      go_wp2_with (first | (refine goesV_ (some 16) rfl rfl Try.func38 (by kernel_rfl) rfl #[.agg #[.int .i64 ((rd_T28 l0 x8_1).f0), .int .i64 ((rd_T28 l0 x8_1).f1), .int .i64 ((rd_T28 l0 x8_1).f2), .int .i64 ((rd_T28 l0 x8_1).f3), .int .i64 ((rd_T28 l0 x8_1).f4), .string ((rd_T28 l0 x8_1).f5)]] rfl (by (try simp only [List.map_toArray, List.map_cons, List.map_nil]); first | done | rfl | (simp only [List.length_drop, List.length_take]; rfl)) ?_; (with_reducible refine (smf_Check_1.calls k1 ((rd_T28 l0 x8_1).f0) ((rd_T28 l0 x8_1).f1) ((rd_T28 l0 x8_1).f2) ((rd_T28 l0 x8_1).f3) ((rd_T28 l0 x8_1).f4) ((rd_T28 l0 x8_1).f5) false _ A5.out).mono ?_); rintro e w8 ⟨rfl, hb⟩; refine ⟨_, rfl, ?_⟩; replace HB := Aside0.mk (below_step (qB HB.out) hb); (try clear hb); (try clear hb2); (try clear hk); (try clear hi)))
      go_roundg k1
      case measure => have := HK1.out; omega
      case rel => exact ⟨(wrap64 (x8_1 + 1)), (by first | rfl | (simp; done) | (simp [*]; done)), H', ⟨by have := HK1.out; omega⟩, ⟨qB HB.out⟩⟩
end Go.Proofs.Ytdmnknhlibaaoaa.M
namespace Go.Proofs.Ytdmnknhlibaaoaa.M
open Go.RowKit Go.Proofs.YtdmnknhlibaaoaaW.PrintWords Go.Proofs.YtdmnknhlibaaoaaW.PrintLast Go.Proofs.YtdmnknhlibaaoaaW.PrintMore
attribute [local go_sem] max2_int min2_int max_two min_two max_three min_three max_four min_four
set_option linter.unusedVariables false
set_option linter.unusedSimpArgs false
def api_Midi_39.f (k : Nat) (l0 : List (S28)) : Option (Bool) := (smf_Parse_1.f k l0).bind fun t101 => (some (decide (t101 ≥ 0)))
theorem api_Midi_39.mono : ∀ a0 k, LeO (api_Midi_39.f k a0) (api_Midi_39.f (k + 1) a0) := by
  intro a0 k
  unfold api_Midi_39.f
  repeat' first
      | (with_reducible exact smf_Parse_1.mono _ _)
      | (with_reducible exact LeO.refl _)
      | (with_reducible exact LeO.none _)
      | (with_reducible refine LeO.ite ?_ ?_)
      | (with_reducible refine LeO.bind ?_ (fun _ => ?_))
      | exact smf_Parse_1.mono _ _
      | exact LeO.none _
      | refine LeO.ite ?_ ?_
      | refine LeO.bind ?_ (fun _ => ?_)
set_option maxHeartbeats 8000000 in
set_option maxRecDepth 100000 in
theorem api_Midi_39.calls (k : Nat) (A0 : Option Addr) (c0 : Nat) (l0 : List (S28)) (r : Bool) (w : World) (hr0 : Kd.C k28 w A0 l0.length l0) (hc0 : l0.length ≤ c0) (h : api_Midi_39.f k l0 = some r) :
    Calls Try.prog 39 #[.slice A0 l0.length c0, .func (.func 38) #[] #[]] w fun e w' => e = .returned (.bool r) ∧ Below w.heap.size w w' := by
  have HR0 := Aside0.mk hr0
  have HC0 := Aside0.mk hc0
  clear hr0 hc0
  have HB := Aside0.mk (Below.refl w.heap.size w)
  have H : ((smf_Parse_1.f k l0).bind fun t101 => (some (decide (t101 ≥ 0)))) = some r := h
  clear h
  replace H := Option.bind_eq_some_iff.mp H
  obtain ⟨t101, A20, H⟩ := H
  replace H : (some (decide (t101 ≥ 0))) = some r := H
  have A2 := Aside0.mk A20
  clear A20
  obtain rfl := Option.some.inj H
  go_enter Try.func39, Try.ntmps39
  go_wp2_with (first | ((with_reducible refine gate_callee (f := 60) rfl ?_); refine goesL_ (some 7) rfl rfl Try.func60 (by kernel_rfl) rfl #[.slice A0 l0.length c0, .func (.func 38) #[] #[]] rfl (by (try simp only [List.map_toArray, List.map_cons, List.map_nil]); first | done | rfl | (simp only [List.length_drop, List.length_take]; rfl)) ?_; (with_reducible refine (smf_Parse_1.calls k _ _ l0 t101 _ ?side1 ?side2 A2.out).mono ?_); (case side1 => repeat (first | exact HR0.out | (with_reducible refine Kd.C_alloc ?_ _) | (with_reducible refine Kd.C_drewN ?_ _) | (with_reducible refine Kd.C_drew ?_))); (case side2 => exact HC0.out); rintro e w3 ⟨rfl, hb⟩; refine ⟨_, rfl, ?_⟩; replace HB := Aside0.mk (below_step (qB HB.out) hb); (try clear hb); (try clear hb2); (try clear hk); (try clear hi)))
  go_ret
  exact ⟨by first | rfl | (simp [errW_none, errW_some] <;> rfl) | (simp [*, errW_none, errW_some] <;> rfl), qB HB.out⟩
end Go.Proofs.Ytdmnknhlibaaoaa.M
namespace Go.Proofs.Ytdmnknhlibaaoaa.M
open Go.RowKit Go.Proofs.YtdmnknhlibaaoaaW.PrintWords Go.Proofs.YtdmnknhlibaaoaaW.PrintLast Go.Proofs.YtdmnknhlibaaoaaW.PrintMore
attribute [local go_sem] max2_int min2_int max_two min_two max_three min_three max_four min_four
set_option linter.unusedVariables false
set_option linter.unusedSimpArgs false
def smf_last.f (a0_0 : Int) (a0_1 : Int) (a0_2 : Int) (a0_3 : Int) (a0_4 : Int) (a0_5 : ByteArray) : Option (Bool) := if a0_1 = 16 then (if a0_3 = 47 then (some (a0_5.toList == ([] : List UInt8))) else (some false)) else (some false)
set_option maxHeartbeats 8000000 in
set_option maxRecDepth 100000 in
theorem smf_last.calls (a0_0 : Int) (a0_1 : Int) (a0_2 : Int) (a0_3 : Int) (a0_4 : Int) (a0_5 : ByteArray) (r : Bool) (w : World) (h : smf_last.f a0_0 a0_1 a0_2 a0_3 a0_4 a0_5 = some r) :
    Calls Try.prog 61 #[.agg #[.int .i64 a0_0, .int .i64 a0_1, .int .i64 a0_2, .int .i64 a0_3, .int .i64 a0_4, .string a0_5]] w fun e w' => e = .returned (.bool r) ∧ Below w.heap.size w w' := by
  have hu28 := Try.underlying28
  have HB := Aside0.mk (Below.refl w.heap.size w)
  have H : (if a0_1 = 16 then (if a0_3 = 47 then (some (a0_5.toList == ([] : List UInt8))) else (some false)) else (some false)) = some r := h
  clear h
  by_cases c2 : a0_1 = 16
  rotate_left
  · rw [if_neg c2] at H
    have c2b0 : (a0_1 == 16) = false := beq_eq_false_iff_ne.mpr c2
    have c2b1 : (a0_1 != 16) = true := bne_iff_ne.mpr c2
    obtain rfl := Option.some.inj H
    go_enter Try.func61, Try.ntmps61
    go_wp2_with (first | ((with_reducible refine gate_dst (N := 1) rfl ?_); refine box_event ?hg (N := 1) ?hd (cs := #[.int .i64 a0_0, .int .i64 a0_1, .int .i64 a0_2, .int .i64 a0_3, .int .i64 a0_4, .string a0_5]) (t := 28) ?hr ?_; (case hd => rfl); (case hg => rfl); (case hr => first | (go_simp; done) | (go_simp; rfl)); intro gb101 hg w8 hbox hb; have BK101 := Aside0.mk (hbox); have GW101 := Aside0.mk ((by rw [hg]; exact (below_size (qB HB.out)) : w.heap.size ≤ gb101)); have GE101 := Aside0.mk ((by rw [hg]; exact (below_size (qB HB.out)) : w.heap.size ≤ gb101)); replace HB := Aside0.mk (below_step (qB HB.out) hb); clear hb hbox hg; obtain ⟨hcz9_0, hcz9_1, hcz9_2, hcz9_3, hcz9_4, hcz9_5, hfz9_0, hfz9_1, hfz9_2, hfz9_3, hfz9_4, hfz9_5⟩ := blk6 BK101.out))
    go_ret
    exact ⟨by first | rfl | (simp [errW_none, errW_some] <;> rfl) | (simp [*, errW_none, errW_some] <;> rfl), qS1 GE101 HB.out⟩
  rw [if_pos c2] at H
  have c2b0 : (a0_1 == 16) = true := beq_iff_eq.mpr c2
  have c2b1 : (a0_1 != 16) = false := bne_eq_false_iff_eq.mpr c2
  clear c2
  by_cases c3 : a0_3 = 47
  rotate_left
  · rw [if_neg c3] at H
    have c3b0 : (a0_3 == 47) = false := beq_eq_false_iff_ne.mpr c3
    have c3b1 : (a0_3 != 47) = true := bne_iff_ne.mpr c3
    obtain rfl := Option.some.inj H
    go_enter Try.func61, Try.ntmps61
    go_wp2_with (first | ((with_reducible refine gate_dst (N := 1) rfl ?_); refine box_event ?hg (N := 1) ?hd (cs := #[.int .i64 a0_0, .int .i64 a0_1, .int .i64 a0_2, .int .i64 a0_3, .int .i64 a0_4, .string a0_5]) (t := 28) ?hr ?_; (case hd => rfl); (case hg => rfl); (case hr => first | (go_simp; done) | (go_simp; rfl)); intro gb101 hg w6 hbox hb; have BK101 := Aside0.mk (hbox); have GW101 := Aside0.mk ((by rw [hg]; exact (below_size (qB HB.out)) : w.heap.size ≤ gb101)); have GE101 := Aside0.mk ((by rw [hg]; exact (below_size (qB HB.out)) : w.heap.size ≤ gb101)); replace HB := Aside0.mk (below_step (qB HB.out) hb); clear hb hbox hg; obtain ⟨hcz7_0, hcz7_1, hcz7_2, hcz7_3, hcz7_4, hcz7_5, hfz7_0, hfz7_1, hfz7_2, hfz7_3, hfz7_4, hfz7_5⟩ := blk6 BK101.out))
    go_ret
    exact ⟨by first | rfl | (simp [errW_none, errW_some] <;> rfl) | (simp [*, errW_none, errW_some] <;> rfl), qS1 GE101 HB.out⟩
  rw [if_pos c3] at H
  have c3b0 : (a0_3 == 47) = true := beq_iff_eq.mpr c3
  have c3b1 : (a0_3 != 47) = false := bne_eq_false_iff_eq.mpr c3
  clear c3
  obtain rfl := Option.some.inj H
  go_enter Try.func61, Try.ntmps61
  go_wp2_with (first | ((with_reducible refine gate_dst (N := 1) rfl ?_); refine box_event ?hg (N := 1) ?hd (cs := #[.int .i64 a0_0, .int .i64 a0_1, .int .i64 a0_2, .int .i64 a0_3, .int .i64 a0_4, .string a0_5]) (t := 28) ?hr ?_; (case hd => rfl); (case hg => rfl); (case hr => first | (go_simp; done) | (go_simp; rfl)); intro gb101 hg w4 hbox hb; have BK101 := Aside0.mk (hbox); have GW101 := Aside0.mk ((by rw [hg]; exact (below_size (qB HB.out)) : w.heap.size ≤ gb101)); have GE101 := Aside0.mk ((by rw [hg]; exact (below_size (qB HB.out)) : w.heap.size ≤ gb101)); replace HB := Aside0.mk (below_step (qB HB.out) hb); clear hb hbox hg; obtain ⟨hcz5_0, hcz5_1, hcz5_2, hcz5_3, hcz5_4, hcz5_5, hfz5_0, hfz5_1, hfz5_2, hfz5_3, hfz5_4, hfz5_5⟩ := blk6 BK101.out))
  go_ret
  exact ⟨by first | rfl | (simp [errW_none, errW_some] <;> rfl) | (simp [*, errW_none, errW_some] <;> rfl), qS1 GE101 HB.out⟩
end Go.Proofs.Ytdmnknhlibaaoaa.M
namespace Go.Proofs.Ytdmnknhlibaaoaa.M
open Go.RowKit Go.Proofs.YtdmnknhlibaaoaaW.PrintWords Go.Proofs.YtdmnknhlibaaoaaW.PrintLast Go.Proofs.YtdmnknhlibaaoaaW.PrintMore
attribute [local go_sem] max2_int min2_int max_two min_two max_three min_three max_four min_four
set_option linter.unusedVariables false
set_option linter.unusedSimpArgs false
def api_Midi_60.l0 : Nat → List (S28) → Int → Int → Option (Int)
  | 0, _, _, _ => none
  | k + 1, x0, x7, x8 => if x8 < x7 then (if 0 ≤ x8 then (if x8 < (x0.length : Int) then ((smf_last.f ((rd_T28 x0 x8).f0) ((rd_T28 x0 x8).f1) ((rd_T28 x0 x8).f2) ((rd_T28 x0 x8).f3) ((rd_T28 x0 x8).f4) ((rd_T28 x0 x8).f5)).bind fun t102 => (if t102 = true then (some x8) else (api_Midi_60.l0 k x0 x7 (wrap64 (x8 + 1))))) else (none)) else (none)) else (some (-1))
def api_Midi_60.f (k : Nat) (l0 : List (S28)) : Option (Int) := api_Midi_60.l0 k l0 (l0.length : Int) 0
theorem api_Midi_60.mono_l : ∀ k, (∀ y0 y1 y2, LeO (api_Midi_60.l0 k y0 y1 y2) (api_Midi_60.l0 (k + 1) y0 y1 y2))
  | 0 => fun _ _ _ r h => by simp [api_Midi_60.l0] at h
  | k + 1 => by
    have ih0 := api_Midi_60.mono_l k
    · intro y0 y1 y2
      unfold api_Midi_60.l0
      repeat' first
      | (with_reducible exact ih0 _ _ _)
      | (with_reducible exact LeO.refl _)
      | (with_reducible exact LeO.none _)
      | (with_reducible refine LeO.ite ?_ ?_)
      | (with_reducible refine LeO.bind ?_ (fun _ => ?_))
      | exact ih0 _ _ _
      | exact LeO.none _
      | refine LeO.ite ?_ ?_
      | refine LeO.bind ?_ (fun _ => ?_)
theorem api_Midi_60.mono : ∀ a0 k, LeO (api_Midi_60.f k a0) (api_Midi_60.f (k + 1) a0) := by
  intro a0 k
  have ih0 := api_Midi_60.mono_l k
  unfold api_Midi_60.f
  repeat' first
      | (with_reducible exact ih0 _ _ _)
      | (with_reducible exact LeO.refl _)
      | (with_reducible exact LeO.none _)
      | (with_reducible refine LeO.ite ?_ ?_)
      | (with_reducible refine LeO.bind ?_ (fun _ => ?_))
      | exact ih0 _ _ _
      | exact LeO.none _
      | refine LeO.ite ?_ ?_
      | refine LeO.bind ?_ (fun _ => ?_)
set_option maxHeartbeats 8000000 in
set_option maxRecDepth 100000 in
theorem api_Midi_60.calls (k : Nat) (A0 : Option Addr) (c0 : Nat) (l0 : List (S28)) (r : Int) (w : World) (hr0 : Kd.C k28 w A0 l0.length l0) (hc0 : l0.length ≤ c0) (h : api_Midi_60.f k l0 = some r) :
    Calls Try.prog 60 #[.slice A0 l0.length c0, .func (.func 61) #[] #[]] w fun e w' => e = .returned (.int .i64 r) ∧ Below w.heap.size w w' := by
  have hu28 := Try.underlying28
  have HR0 := Aside0.mk hr0
  have HC0 := Aside0.mk hc0
  clear hr0 hc0
  have HB := Aside0.mk (Below.refl w.heap.size w)
  have H : (api_Midi_60.l0 k l0 (l0.length : Int) 0) = some r := h
  clear h
  have H' := Aside0.mk H
  clear H
  go_enter Try.func60, Try.ntmps60
  go_wp2
  go_loopg [8] k (fun kq v8 w' => ∃ (x8_1 : Int), v8 = .int .i64 x8_1 ∧ Aside0 (api_Midi_60.l0 kq l0 (l0.length : Int) x8_1 = some r) ∧ Aside0 (kq ≤ k) ∧ Aside0 (Below w.heap.size w w'))
  case atStart => exact ⟨(0), (by first | rfl | (simp; done) | (simp [*]; done)), H', ⟨Nat.le_refl _⟩, ⟨qB HB.out⟩⟩
  case round =>
    clear H'
    obtain ⟨x8_1, rfl, HA, HK1, HB⟩ := hrel
    cases gk with
    | zero => exact absurd HA.out (by simp [api_Midi_60.l0])
    | succ k1 =>
      have H := HA.out
      clear HA
      simp only [api_Midi_60.l0] at H
      by_cases c2 : x8_1 < (l0.length : Int)
      rotate_left
      · rw [if_neg c2] at H
        have c2b0 : decide (x8_1 < (l0.length : Int)) = false := decide_eq_false c2
        clear c2
        obtain rfl := Option.some.inj H
        go_wp2
        go_ret
        exact ⟨by first | rfl | (simp [errW_none, errW_some] <;> rfl) | (simp [*, errW_none, errW_some] <;> rfl), qB HB.out⟩
      rw [if_pos c2] at H
      have c2b0 : decide (x8_1 < (l0.length : Int)) = true := decide_eq_true c2
      clear c2
      by_cases c3 : 0 ≤ x8_1
      rotate_left
      · rw [if_neg c3] at H
        exact absurd H (by simp)
      rw [if_pos c3] at H
      have c3b0 : decide (0 ≤ x8_1) = true := decide_eq_true c3
      clear c3
      by_cases c4 : x8_1 < (l0.length : Int)
      rotate_left
      · rw [if_neg c4] at H
        exact absurd H (by simp)
      rw [if_pos c4] at H
      have c4b0 : decide (x8_1 < (l0.length : Int)) = true := decide_eq_true c4
      clear c4
      replace H := Option.bind_eq_some_iff.mp H
      obtain ⟨t102, A50, H⟩ := H
      replace H : (if t102 = true then (some x8_1) else (api_Midi_60.l0 k1 l0 (l0.length : Int) (wrap64 (x8_1 + 1)))) = some r := H
      have A5 := Aside0.mk A50
      clear A50
      by_cases c6 : t102 = true
      · subst c6
        have H1 : (some x8_1) = some r := by rw [if_pos rfl] at H; exact H
        clear H
        have H := H1
        clear H1
        obtain rfl := Option.some.inj H
        have p101 : 0 ≤ (x8_1 : Int) := of_decide_eq_true (by first | (with_reducible assumption) | assumption)
        have q101 : x8_1 < (l0.length : Int) := of_decide_eq_true (by first | (with_reducible assumption) | assumption)
        obtain ⟨ad101, e101, hx101_0, hx101_1, hx101_2, hx101_3, hx101_4, hx101_5⟩ := at_T28 HR0.out x8_1 p101 q101
        cases e101
        replace hx101_0 := (HB.out.cell (World.block_lt_of_cell? w _ hx101_0)).trans hx101_0
        replace hx101_1 := (HB.out.cell (World.block_lt_of_cell? w _ hx101_1)).trans hx101_1
        replace hx101_2 := (HB.out.cell (World.block_lt_of_cell? w _ hx101_2)).trans hx101_2
        replace hx101_3 := (HB.out.cell (World.block_lt_of_cell? w _ hx101_3)).trans hx101_3
        replace hx101_4 := (HB.out.cell (World.block_lt_of_cell? w _ hx101_4)).trans hx101_4
        replace hx101_5 := (HB.out.cell (World.block_lt_of_cell? w _ hx101_5)).trans hx101_5
        replace p101 := eq_true p101
        replace q101 := eq_true q101
        go_wp2_with (first | (refine goesV_ (some 16) rfl rfl Try.func61 (by kernel_rfl) rfl #[.agg #[.int .i64 ((rd_T28 l0 x8_1).f0), .int .i64 ((rd_T28 l0 x8_1).f1), .int .i64 ((rd_T28 l0 x8_1).f2), .int .i64 ((rd_T28 l0 x8_1).f3), .int .i64 ((rd_T28 l0 x8_1).f4), .string ((rd_T28 l0 x8_1).f5)]] rfl (by (try simp only [List.map_toArray, List.map_cons, List.map_nil]); first | done | rfl | (simp only [List.length_drop, List.length_take]; rfl)) ?_; (with_reducible refine (smf_last.calls ((rd_T28 l0 x8_1).f0) ((rd_T28 l0 x8_1).f1) ((rd_T28 l0 x8_1).f2) ((rd_T28 l0 x8_1).f3) ((rd_T28 l0 x8_1).f4) ((rd_T28 l0 x8_1).f5) true _ A5.out).mono ?_); rintro e w7 ⟨rfl, hb⟩; refine ⟨_, rfl, ?_⟩; replace HB := Aside0.mk (below_step (qB HB.out) hb); (try clear hb); (try clear hb2); (try clear hk); (try clear hi)))
        go_ret
        exact ⟨by first | rfl | (simp [errW_none, errW_some] <;> rfl) | (simp [*, errW_none, errW_some] <;> rfl), qB HB.out⟩
      replace c6 := Bool.eq_false_iff.mpr c6
      subst c6
      have H1 : (api_Midi_60.l0 k1 l0 (l0.length : Int) (wrap64 (x8_1 + 1))) = some r := by rw [if_neg (show ¬ (false = true) by decide)] at H; exact H
      clear H
      have H := H1
      clear H1
      have H' := Aside0.mk H
      clear H
      have p101 : 0 ≤ (x8_1 : Int) := of_decide_eq_true (by first | (with_reducible assumption) | assumption)
      have q101 : x8_1 < (l0.length : Int) := of_decide_eq_true (by first | (with_reducible assumption) | assumption)
      obtain ⟨ad101, e101, hx101_0, hx101_1, hx101_2, hx101_3, hx101_4, hx101_5⟩ := at_T28 HR0.out x8_1 p101 q101
      cases e101
      replace hx101_0 := (HB.out.cell (World.block_lt_of_cell? w _ hx101_0)).trans hx101_0
      replace hx101_1 := (HB.out.cell (World.block_lt_of_cell? w _ hx101_1)).trans hx101_1
      replace hx101_2 := (HB.out.cell (World.block_lt_of_cell? w _ hx101_2)).trans hx101_2
      replace hx101_3 := (HB.out.cell (World.block_lt_of_cell? w _ hx101_3)).trans hx101_3
      replace hx101_4 := (HB.out.cell (World.block_lt_of_cell? w _ hx101_4)).trans hx101_4
      replace hx101_5 := (HB.out.cell (World.block_lt_of_cell? w _ hx101_5)).trans hx101_5
      replace p101 := eq_true p101
      replace q101 := eq_true q101
      go_wp2_with (first | (refine goesV_ (some 16) rfl rfl Try.func61 (by kernel_rfl) rfl #[.agg #[.int .i64 ((rd_T28 l0 x8_1).f0), .int .i64 ((rd_T28 l0 x8_1).f1), .int .i64 ((rd_T28 l0 x8_1).f2), .int .i64 ((rd_T28 l0 x8_1).f3), .int .i64 ((rd_T28 l0 x8_1).f4), .string ((rd_T28 l0 x8_1).f5)]] rfl (by (try simp only [List.map_toArray, List.map_cons, List.map_nil]); first | done | rfl | (simp only [List.length_drop, List.length_take]; rfl)) ?_; (with_reducible refine (smf_last.calls ((rd_T28 l0 x8_1).f0) ((rd_T28 l0 x8_1).f1) ((rd_T28 l0 x8_1).f2) ((rd_T28 l0 x8_1).f3) ((rd_T28 l0 x8_1).f4) ((rd_T28 l0 x8_1).f5) false _ A5.out).mono ?_); rintro e w8 ⟨rfl, hb⟩; refine ⟨_, rfl, ?_⟩; replace HB := Aside0.mk (below_step (qB HB.out) hb); (try clear hb); (try clear hb2); (try clear hk); (try clear hi)))
      go_roundg k1
      case measure => have := HK1.out; omega
      case rel => exact ⟨(wrap64 (x8_1 + 1)), (by first | rfl | (simp; done) | (simp [*]; done)), H', ⟨by have := HK1.out; omega⟩, ⟨qB HB.out⟩⟩
end Go.Proofs.Ytdmnknhlibaaoaa.M
namespace Go.Proofs.Ytdmnknhlibaaoaa.M
open Go.RowKit Go.Proofs.YtdmnknhlibaaoaaW.PrintWords Go.Proofs.YtdmnknhlibaaoaaW.PrintLast Go.Proofs.YtdmnknhlibaaoaaW.PrintMore
attribute [local go_sem] max2_int min2_int max_two min_two max_three min_three max_four min_four
set_option linter.unusedVariables false
set_option linter.unusedSimpArgs false
def smf_ends.f (k : Nat) (l0 : List (S28)) : Option (Bool) := if (l0.length : Int) > 0 then ((api_Midi_60.f k l0).bind fun t101 => (some (t101 == (wrap64 ((l0.length : Int) - 1))))) else (some false)
theorem smf_ends.mono : ∀ a0 k, LeO (smf_ends.f k a0) (smf_ends.f (k + 1) a0) := by
  intro a0 k
  unfold smf_ends.f
  repeat' first
      | (with_reducible exact api_Midi_60.mono _ _)
      | (with_reducible exact LeO.refl _)
      | (with_reducible exact LeO.none _)
      | (with_reducible refine LeO.ite ?_ ?_)
      | (with_reducible refine LeO.bind ?_ (fun _ => ?_))
      | exact api_Midi_60.mono _ _
      | exact LeO.none _
      | refine LeO.ite ?_ ?_
      | refine LeO.bind ?_ (fun _ => ?_)
set_option maxHeartbeats 8000000 in
set_option maxRecDepth 100000 in
theorem smf_ends.calls (k : Nat) (A0 : Option Addr) (c0 : Nat) (l0 : List (S28)) (r : Bool) (w : World) (hr0 : Kd.C k28 w A0 l0.length l0) (hc0 : l0.length ≤ c0) (h : smf_ends.f k l0 = some r) :
    Calls Try.prog 40 #[.slice A0 l0.length c0] w fun e w' => e = .returned (.bool r) ∧ Below w.heap.size w w' := by
  have HR0 := Aside0.mk hr0
  have HC0 := Aside0.mk hc0
  clear hr0 hc0
  have HB := Aside0.mk (Below.refl w.heap.size w)
  have H : (if (l0.length : Int) > 0 then ((api_Midi_60.f k l0).bind fun t101 => (some (t101 == (wrap64 ((l0.length : Int) - 1))))) else (some false)) = some r := h
  clear h
  by_cases c2 : (l0.length : Int) > 0
  · rw [if_pos c2] at H
    have c2b0 : decide (0 < (l0.length : Int)) = true := decide_eq_true c2
    have c2b1 : decide (0 < l0.length) = true := decide_eq_true (by omega)
    clear c2
    replace H := Option.bind_eq_some_iff.mp H
    obtain ⟨t101, A30, H⟩ := H
    replace H : (some (t101 == (wrap64 ((l0.length : Int) - 1)))) = some r := H
    have A3 := Aside0.mk A30
    clear A30
    obtain rfl := Option.some.inj H
    go_enter Try.func40, Try.ntmps40
    go_wp2_with (first | (go_at_call 60; (with_reducible refine (api_Midi_60.calls k _ _ l0 t101 _ ?side1 ?side2 A3.out).mono ?_); (case side1 => repeat (first | exact HR0.out | (with_reducible refine Kd.C_alloc ?_ _) | (with_reducible refine Kd.C_drewN ?_ _) | (with_reducible refine Kd.C_drew ?_))); (case side2 => exact HC0.out); rintro e w4 ⟨rfl, hb⟩; replace HB := Aside0.mk (below_step (qB HB.out) hb); (try clear hb); (try clear hb2); (try clear hk); (try clear hi)))
    go_ret
    exact ⟨by first | rfl | (simp [errW_none, errW_some] <;> rfl) | (simp [*, errW_none, errW_some] <;> rfl), qB HB.out⟩
  · rw [if_neg c2] at H
    have c2b0 : decide (0 < (l0.length : Int)) = false := decide_eq_false c2
    have c2b1 : decide (0 < l0.length) = false := decide_eq_false (by omega)
    clear c2
    obtain rfl := Option.some.inj H
    go_enter Try.func40, Try.ntmps40
    go_wp2
    go_ret
    exact ⟨by first | rfl | (simp [errW_none, errW_some] <;> rfl) | (simp [*, errW_none, errW_some] <;> rfl), qB HB.out⟩
end Go.Proofs.Ytdmnknhlibaaoaa.M
namespace Go.Proofs.Ytdmnknhlibaaoaa.M
open Go.RowKit Go.Proofs.YtdmnknhlibaaoaaW.PrintWords Go.Proofs.YtdmnknhlibaaoaaW.PrintLast Go.Proofs.YtdmnknhlibaaoaaW.PrintMore
attribute [local go_sem] max2_int min2_int max_two min_two max_three min_three max_four min_four
set_option linter.unusedVariables false
set_option linter.unusedSimpArgs false
mutual
def smf_Check.j0 : Nat → Bool → Int → Int → List (List (S28)) → Option (Int × Int)
  | 0, _, _, _, _ => none
  | k + 1, x45, x102000, x102001, x102002 => if x45 = true then (some (0, 160)) else (smf_Check.l0 k x102002 (x102002.length : Int) 0)
def smf_Check.l0 : Nat → List (List (S28)) → Int → Int → Option (Int × Int)
  | 0, _, _, _ => none
  | k + 1, x47, x48, x49 => if x49 < x48 then (if 0 ≤ x49 then (if x49 < (x47.length : Int) then ((api_Midi_39.f k (rd_L3 x47 x49)).bind fun t103 => (if t103 = true then (some (x49, 151)) else ((smf_ends.f k (rd_L3 x47 x49)).bind fun t104 => (if t104 = true then (smf_Check.l0 k x47 x48 (wrap64 (x49 + 1))) else (some (x49, 160)))))) else (none)) else (none)) else (some (0, 0))
end
def smf_Check.f (k : Nat) (a0_0 : Int) (a0_1 : Int) (l0_2 : List (List (S28))) : Option (Int × Int) := if a0_0 < 0 then (smf_Check.j0 k true a0_0 a0_1 l0_2) else (if a0_0 > 1 then (smf_Check.j0 k true a0_0 a0_1 l0_2) else (if a0_1 < 1 then (smf_Check.j0 k true a0_0 a0_1 l0_2) else (if a0_1 > 32767 then (smf_Check.j0 k true a0_0 a0_1 l0_2) else (if (l0_2.length : Int) < 1 then (smf_Check.j0 k true a0_0 a0_1 l0_2) else (if (l0_2.length : Int) > 16 then (smf_Check.j0 k true a0_0 a0_1 l0_2) else (if (l0_2.length : Int) > 1 then (smf_Check.j0 k (a0_0 == 0) a0_0 a0_1 l0_2) else (smf_Check.j0 k false a0_0 a0_1 l0_2)))))))
theorem smf_Check.mono_l : ∀ k, (∀ y0 y1 y2 y3, LeO (smf_Check.j0 k y0 y1 y2 y3) (smf_Check.j0 (k + 1) y0 y1 y2 y3)) ∧ (∀ y0 y1 y2, LeO (smf_Check.l0 k y0 y1 y2) (smf_Check.l0 (k + 1) y0 y1 y2))
  | 0 => ⟨fun _ _ _ _ r h => by simp [smf_Check.j0] at h, fun _ _ _ r h => by simp [smf_Check.l0] at h⟩
  | k + 1 => by
    obtain ⟨ih0, ih1⟩ := smf_Check.mono_l k
    refine ⟨?_, ?_⟩
    · intro y0 y1 y2 y3
      unfold smf_Check.j0
      repeat' first
      | (with_reducible exact ih0 _ _ _ _)
      | (with_reducible exact ih1 _ _ _)
      | (with_reducible exact api_Midi_39.mono _ _)
      | (with_reducible exact smf_ends.mono _ _)
      | (with_reducible exact LeO.refl _)
      | (with_reducible exact LeO.none _)
      | (with_reducible refine LeO.ite ?_ ?_)
      | (with_reducible refine LeO.bind ?_ (fun _ => ?_))
      | exact ih0 _ _ _ _
      | exact ih1 _ _ _
      | exact api_Midi_39.mono _ _
      | exact smf_ends.mono _ _
      | exact LeO.none _
      | refine LeO.ite ?_ ?_
      | refine LeO.bind ?_ (fun _ => ?_)
    · intro y0 y1 y2
      unfold smf_Check.l0
      repeat' first
      | (with_reducible exact ih0 _ _ _ _)
      | (with_reducible exact ih1 _ _ _)
      | (with_reducible exact api_Midi_39.mono _ _)
      | (with_reducible exact smf_ends.mono _ _)
      | (with_reducible exact LeO.refl _)
      | (with_reducible exact LeO.none _)
      | (with_reducible refine LeO.ite ?_ ?_)
      | (with_reducible refine LeO.bind ?_ (fun _ => ?_))
      | exact ih0 _ _ _ _
      | exact ih1 _ _ _
      | exact api_Midi_39.mono _ _
      | exact smf_ends.mono _ _
      | exact LeO.none _
      | refine LeO.ite ?_ ?_
      | refine LeO.bind ?_ (fun _ => ?_)
theorem smf_Check.mono : ∀ a0 a1 a2 k, LeO (smf_Check.f k a0 a1 a2) (smf_Check.f (k + 1) a0 a1 a2) := by
  intro a0 a1 a2 k
  obtain ⟨ih0, ih1⟩ := smf_Check.mono_l k
  unfold smf_Check.f
  repeat' first
      | (with_reducible exact ih0 _ _ _ _)
      | (with_reducible exact ih1 _ _ _)
      | (with_reducible exact api_Midi_39.mono _ _)
      | (with_reducible exact smf_ends.mono _ _)
      | (with_reducible exact LeO.refl _)
      | (with_reducible exact LeO.none _)
      | (with_reducible refine LeO.ite ?_ ?_)
      | (with_reducible refine LeO.bind ?_ (fun _ => ?_))
      | exact ih0 _ _ _ _
      | exact ih1 _ _ _
      | exact api_Midi_39.mono _ _
      | exact smf_ends.mono _ _
      | exact LeO.none _
      | refine LeO.ite ?_ ?_
      | refine LeO.bind ?_ (fun _ => ?_)
set_option maxHeartbeats 8000000 in
set_option maxRecDepth 100000 in
theorem smf_Check.calls (k : Nat) (a0_0 : Int) (a0_1 : Int) (A0_2 : Option Addr) (c0_2 : Nat) (l0_2 : List (List (S28))) (r1 : Int) (r2 : Int) (w : World) (hr0_2 : Kd.C (Kd.slice 28 k28) w A0_2 l0_2.length l0_2) (hc0_2 : l0_2.length ≤ c0_2) (h : smf_Check.f k a0_0 a0_1 l0_2 = some (r1, r2)) :
    Calls Try.prog 24 #[.agg #[.int .i64 a0_0, .int .i64 a0_1, .slice A0_2 l0_2.length c0_2]] w fun e w' => e = .returned (.tuple #[.int .i64 r1, .int .i64 r2]) ∧ Below w.heap.size w w' := by
  have hu24 := Try.underlying24
  have HR0_2 := Aside0.mk hr0_2
  have HC0_2 := Aside0.mk hc0_2
  clear hr0_2 hc0_2
  have HB := Aside0.mk (Below.refl w.heap.size w)
  have H : (if a0_0 < 0 then (smf_Check.j0 k true a0_0 a0_1 l0_2) else (if a0_0 > 1 then (smf_Check.j0 k true a0_0 a0_1 l0_2) else (if a0_1 < 1 then (smf_Check.j0 k true a0_0 a0_1 l0_2) else (if a0_1 > 32767 then (smf_Check.j0 k true a0_0 a0_1 l0_2) else (if (l0_2.length : Int) < 1 then (smf_Check.j0 k true a0_0 a0_1 l0_2) else (if (l0_2.length : Int) > 16 then (smf_Check.j0 k true a0_0 a0_1 l0_2) else (if (l0_2.length : Int) > 1 then (smf_Check.j0 k (a0_0 == 0) a0_0 a0_1 l0_2) else (smf_Check.j0 k false a0_0 a0_1 l0_2)))))))) = some (r1, r2) := h
  clear h
  have HC2 := Aside0.mk H
  clear H
  go_enter Try.func24, Try.ntmps24
  go_upto_region 2 with (first | ((with_reducible refine gate_dst (N := 1) rfl ?_); refine box_event ?hg (N := 1) ?hd (cs := #[.int .i64 a0_0, .int .i64 a0_1, .slice A0_2 l0_2.length c0_2]) (t := 24) ?hr ?_; (case hd => rfl); (case hg => rfl); (case hr => first | (go_simp; done) | (go_simp; rfl)); intro gb101 hg w3 hbox hb; have BK101 := Aside0.mk (hbox); have GW101 := Aside0.mk ((by rw [hg]; exact (below_size (qB HB.out)) : w.heap.size ≤ gb101)); have GE101 := Aside0.mk ((by rw [hg]; exact (below_size (qB HB.out)) : w.heap.size ≤ gb101)); replace HB := Aside0.mk (below_step (qB HB.out) hb); clear hb hbox hg; obtain ⟨hcz4_0, hcz4_1, hcz4_2, hfz4_0, hfz4_1, hfz4_2⟩ := blk3 BK101.out))
  (try simp only [Act.put, List.setIfInBounds_toArray, List.set_cons_zero, List.set_cons_succ])
  go_cut [45] (fun v45 wc => ∃ (kq : Nat) (x45_1 : Bool), v45 = .bool x45_1 ∧ Aside0 (smf_Check.j0 kq x45_1 a0_0 a0_1 l0_2 = some (r1, r2)) ∧ Aside0 (kq ≤ k) ∧ Aside0 (wc.heap[gb101]? = some (.cells #[.int .i64 a0_0, .int .i64 a0_1, (.slice A0_2 l0_2.length c0_2)] 24 (0, 0))) ∧ Aside0 (Below w.heap.size w wc))
  case first =>
    have H := HC2.out
    clear HC2
    by_cases c5 : a0_0 < 0
    · rw [if_pos c5] at H
      have c5b0 : decide (a0_0 < 0) = true := decide_eq_true c5
      clear c5
      (first | rw [c5b0] | (simp only [i64_w, i32_w]; rw [c5b0]) | skip)
      have H' := Aside0.mk H
      clear H
      obtain ⟨hcz6_0, hcz6_1, hcz6_2, hfz6_0, hfz6_1, hfz6_2⟩ := blk3 BK101.out
      go_wp2
      go_meet
      case rel => exact ⟨_, (true), (by first | rfl | (simp; done) | (simp [*]; done)), H', ⟨by first | omega | exact Nat.le_refl _⟩, ⟨bq BK101.out⟩, ⟨qS1 GE101 HB.out⟩⟩
    rw [if_neg c5] at H
    have c5b0 : decide (a0_0 < 0) = false := decide_eq_false c5
    clear c5
    (first | rw [c5b0] | (simp only [i64_w, i32_w]; rw [c5b0]) | skip)
    by_cases c7 : a0_0 > 1
    · rw [if_pos c7] at H
      have c7b0 : decide (1 < a0_0) = true := decide_eq_true c7
      clear c7
      have H' := Aside0.mk H
      clear H
      obtain ⟨hcz8_0, hcz8_1, hcz8_2, hfz8_0, hfz8_1, hfz8_2⟩ := blk3 BK101.out
      go_wp2
      go_meet
      case rel => exact ⟨_, (true), (by first | rfl | (simp; done) | (simp [*]; done)), H', ⟨by first | omega | exact Nat.le_refl _⟩, ⟨bq BK101.out⟩, ⟨qS1 GE101 HB.out⟩⟩
    rw [if_neg c7] at H
    have c7b0 : decide (1 < a0_0) = false := decide_eq_false c7
    clear c7
    by_cases c9 : a0_1 < 1
    · rw [if_pos c9] at H
      have c9b0 : decide (a0_1 < 1) = true := decide_eq_true c9
      clear c9
      have H' := Aside0.mk H
      clear H
      obtain ⟨hcz10_0, hcz10_1, hcz10_2, hfz10_0, hfz10_1, hfz10_2⟩ := blk3 BK101.out
      go_wp2
      go_meet
      case rel => exact ⟨_, (true), (by first | rfl | (simp; done) | (simp [*]; done)), H', ⟨by first | omega | exact Nat.le_refl _⟩, ⟨bq BK101.out⟩, ⟨qS1 GE101 HB.out⟩⟩
    rw [if_neg c9] at H
    have c9b0 : decide (a0_1 < 1) = false := decide_eq_false c9
    clear c9
    by_cases c11 : a0_1 > 32767
    · rw [if_pos c11] at H
      have c11b0 : decide (32767 < a0_1) = true := decide_eq_true c11
      clear c11
      have H' := Aside0.mk H
      clear H
      obtain ⟨hcz12_0, hcz12_1, hcz12_2, hfz12_0, hfz12_1, hfz12_2⟩ := blk3 BK101.out
      go_wp2
      go_meet
      case rel => exact ⟨_, (true), (by first | rfl | (simp; done) | (simp [*]; done)), H', ⟨by first | omega | exact Nat.le_refl _⟩, ⟨bq BK101.out⟩, ⟨qS1 GE101 HB.out⟩⟩
    rw [if_neg c11] at H
    have c11b0 : decide (32767 < a0_1) = false := decide_eq_false c11
    clear c11
    by_cases c13 : (l0_2.length : Int) < 1
    · rw [if_pos c13] at H
      have c13b0 : decide ((l0_2.length : Int) < 1) = true := decide_eq_true c13
      have c13b1 : decide (l0_2.length < 1) = true := decide_eq_true (by omega)
      clear c13
      have H' := Aside0.mk H
      clear H
      obtain ⟨hcz14_0, hcz14_1, hcz14_2, hfz14_0, hfz14_1, hfz14_2⟩ := blk3 BK101.out
      go_wp2
      go_meet
      case rel => exact ⟨_, (true), (by first | rfl | (simp; done) | (simp [*]; done)), H', ⟨by first | omega | exact Nat.le_refl _⟩, ⟨bq BK101.out⟩, ⟨qS1 GE101 HB.out⟩⟩
    rw [if_neg c13] at H
    have c13b0 : decide ((l0_2.length : Int) < 1) = false := decide_eq_false c13
    have c13b1 : decide (l0_2.length < 1) = false := decide_eq_false (by omega)
    clear c13
    by_cases c15 : (l0_2.length : Int) > 16
    · rw [if_pos c15] at H
      have c15b0 : decide (16 < (l0_2.length : Int)) = true := decide_eq_true c15
      have c15b1 : decide (16 < l0_2.length) = true := decide_eq_true (by omega)
      clear c15
      have H' := Aside0.mk H
      clear H
      obtain ⟨hcz16_0, hcz16_1, hcz16_2, hfz16_0, hfz16_1, hfz16_2⟩ := blk3 BK101.out
      go_wp2
      go_meet
      case rel => exact ⟨_, (true), (by first | rfl | (simp; done) | (simp [*]; done)), H', ⟨by first | omega | exact Nat.le_refl _⟩, ⟨bq BK101.out⟩, ⟨qS1 GE101 HB.out⟩⟩
    rw [if_neg c15] at H
    have c15b0 : decide (16 < (l0_2.length : Int)) = false := decide_eq_false c15
    have c15b1 : decide (16 < l0_2.length) = false := decide_eq_false (by omega)
    clear c15
    by_cases c17 : (l0_2.length : Int) > 1
    · rw [if_pos c17] at H
      have c17b0 : decide (1 < (l0_2.length : Int)) = true := decide_eq_true c17
      have c17b1 : decide (1 < l0_2.length) = true := decide_eq_true (by omega)
      clear c17
      have H' := Aside0.mk H
      clear H
      obtain ⟨hcz18_0, hcz18_1, hcz18_2, hfz18_0, hfz18_1, hfz18_2⟩ := blk3 BK101.out
      go_wp2
      go_meet
      case rel => exact ⟨_, ((a0_0 == 0)), (by first | rfl | (simp; done) | (simp [*]; done)), H', ⟨by first | omega | exact Nat.le_refl _⟩, ⟨bq BK101.out⟩, ⟨qS1 GE101 HB.out⟩⟩
    rw [if_neg c17] at H
    have c17b0 : decide (1 < (l0_2.length : Int)) = false := decide_eq_false c17
    have c17b1 : decide (1 < l0_2.length) = false := decide_eq_false (by omega)
    clear c17
    have H' := Aside0.mk H
    clear H
    obtain ⟨hcz19_0, hcz19_1, hcz19_2, hfz19_0, hfz19_1, hfz19_2⟩ := blk3 BK101.out
    go_wp2
    go_meet
    case rel => exact ⟨_, (false), (by first | rfl | (simp; done) | (simp [*]; done)), H', ⟨by first | omega | exact Nat.le_refl _⟩, ⟨bq BK101.out⟩, ⟨qS1 GE101 HB.out⟩⟩
  case rest =>
    clear HC2
    try clear c1
    try clear c2
    try clear p2
    try clear c5
    try clear c5b0
    try clear c7
    try clear c7b0
    try clear c9
    try clear c9b0
    try clear c11
    try clear c11b0
    try clear c13
    try clear c13b0
    try clear c13b1
    try clear c15
    try clear c15b0
    try clear c15b1
    try clear c17
    try clear c17b0
    try clear c17b1
    try clear hcz10_0
    try clear hcz10_1
    try clear hcz10_2
    try clear hcz12_0
    try clear hcz12_1
    try clear hcz12_2
    try clear hcz14_0
    try clear hcz14_1
    try clear hcz14_2
    try clear hcz16_0
    try clear hcz16_1
    try clear hcz16_2
    try clear hcz18_0
    try clear hcz18_1
    try clear hcz18_2
    try clear hcz19_0
    try clear hcz19_1
    try clear hcz19_2
    try clear hcz4_0
    try clear hcz4_1
    try clear hcz4_2
    try clear hcz6_0
    try clear hcz6_1
    try clear hcz6_2
    try clear hcz8_0
    try clear hcz8_1
    try clear hcz8_2
    try clear hfz10_0
    try clear hfz10_1
    try clear hfz10_2
    try clear hfz12_0
    try clear hfz12_1
    try clear hfz12_2
    try clear hfz14_0
    try clear hfz14_1
    try clear hfz14_2
    try clear hfz16_0
    try clear hfz16_1
    try clear hfz16_2
    try clear hfz18_0
    try clear hfz18_1
    try clear hfz18_2
    try clear hfz19_0
    try clear hfz19_1
    try clear hfz19_2
    try clear hfz4_0
    try clear hfz4_1
    try clear hfz4_2
    try clear hfz6_0
    try clear hfz6_1
    try clear hfz6_2
    try clear hfz8_0
    try clear hfz8_1
    try clear hfz8_2
    obtain ⟨kq, x45_1, rfl, HA, HJ1, BK101, HB⟩ := hcut
    cases kq with
    | zero => exact absurd HA.out (by simp [smf_Check.j0])
    | succ kj1 =>
      have H := HA.out
      clear HA
      simp only [smf_Check.j0] at H
      by_cases c20 : x45_1 = true
      · subst c20
        have H1 : (some (0, 160)) = some (r1, r2) := by rw [if_pos rfl] at H; exact H
        clear H
        have H := H1
        clear H1
        simp only [Option.some.injEq, Prod.mk.injEq] at H
        obtain ⟨rfl, rfl⟩ := H
        go_wp2
        go_ret2
        exact ⟨by first | rfl | (simp [errW_none, errW_some] <;> rfl) | (simp [*, errW_none, errW_some] <;> rfl), qS1 GE101 HB.out⟩
      replace c20 := Bool.eq_false_iff.mpr c20
      subst c20
      have H1 : (smf_Check.l0 kj1 l0_2 (l0_2.length : Int) 0) = some (r1, r2) := by rw [if_neg (show ¬ (false = true) by decide)] at H; exact H
      clear H
      have H := H1
      clear H1
      have H' := Aside0.mk H
      clear H
      obtain ⟨hcz21_0, hcz21_1, hcz21_2, hfz21_0, hfz21_1, hfz21_2⟩ := blk3 BK101.out
      go_wp2
      go_loopg [49] kj1 (fun kq v49 w' => ∃ (x49_2 : Int), v49 = .int .i64 x49_2 ∧ Aside0 (smf_Check.l0 kq l0_2 (l0_2.length : Int) x49_2 = some (r1, r2)) ∧ Aside0 (kq ≤ kj1) ∧ Aside0 (w'.heap[gb101]? = some (.cells #[.int .i64 a0_0, .int .i64 a0_1, (.slice A0_2 l0_2.length c0_2)] 24 (0, 0))) ∧ Aside0 (Below w.heap.size w w'))
      case atStart => exact ⟨(0), (by first | rfl | (simp; done) | (simp [*]; done)), H', ⟨Nat.le_refl _⟩, ⟨bq BK101.out⟩, ⟨qS1 GE101 HB.out⟩⟩
      case round =>
        clear H'
        try clear c1
        try clear c2
        try clear p2
        try clear c5
        try clear c5b0
        try clear c7
        try clear c7b0
        try clear c9
        try clear c9b0
        try clear c11
        try clear c11b0
        try clear c13
        try clear c13b0
        try clear c13b1
        try clear c15
        try clear c15b0
        try clear c15b1
        try clear c17
        try clear c17b0
        try clear c17b1
        try clear c20
        try clear hcz10_0
        try clear hcz10_1
        try clear hcz10_2
        try clear hcz12_0
        try clear hcz12_1
        try clear hcz12_2
        try clear hcz14_0
        try clear hcz14_1
        try clear hcz14_2
        try clear hcz16_0
        try clear hcz16_1
        try clear hcz16_2
        try clear hcz18_0
        try clear hcz18_1
        try clear hcz18_2
        try clear hcz19_0
        try clear hcz19_1
        try clear hcz19_2
        try clear hcz21_0
        try clear hcz21_1
        try clear hcz21_2
        try clear hcz4_0
        try clear hcz4_1
        try clear hcz4_2
        try clear hcz6_0
        try clear hcz6_1
        try clear hcz6_2
        try clear hcz8_0
        try clear hcz8_1
        try clear hcz8_2
        try clear hfz10_0
        try clear hfz10_1
        try clear hfz10_2
        try clear hfz12_0
        try clear hfz12_1
        try clear hfz12_2
        try clear hfz14_0
        try clear hfz14_1
        try clear hfz14_2
        try clear hfz16_0
        try clear hfz16_1
        try clear hfz16_2
        try clear hfz18_0
        try clear hfz18_1
        try clear hfz18_2
        try clear hfz19_0
        try clear hfz19_1
        try clear hfz19_2
        try clear hfz21_0
        try clear hfz21_1
        try clear hfz21_2
        try clear hfz4_0
        try clear hfz4_1
        try clear hfz4_2
        try clear hfz6_0
        try clear hfz6_1
        try clear hfz6_2
        try clear hfz8_0
        try clear hfz8_1
        try clear hfz8_2
        try clear p2
        obtain ⟨x49_2, rfl, HA, HK2, BK101, HB⟩ := hrel
        cases gk with
        | zero => exact absurd HA.out (by simp [smf_Check.l0])
        | succ k2 =>
          have H := HA.out
          clear HA
          simp only [smf_Check.l0] at H
          by_cases c22 : x49_2 < (l0_2.length : Int)
          rotate_left
          · rw [if_neg c22] at H
            have c22b0 : decide (x49_2 < (l0_2.length : Int)) = false := decide_eq_false c22
            clear c22
            simp only [Option.some.injEq, Prod.mk.injEq] at H
            obtain ⟨rfl, rfl⟩ := H
            go_wp2
            go_ret2
            exact ⟨by first | rfl | (simp [errW_none, errW_some] <;> rfl) | (simp [*, errW_none, errW_some] <;> rfl), qS1 GE101 HB.out⟩
          rw [if_pos c22] at H
          have c22b0 : decide (x49_2 < (l0_2.length : Int)) = true := decide_eq_true c22
          clear c22
          by_cases c23 : 0 ≤ x49_2
          rotate_left
          · rw [if_neg c23] at H
            exact absurd H (by simp)
          rw [if_pos c23] at H
          have c23b0 : decide (0 ≤ x49_2) = true := decide_eq_true c23
          clear c23
          by_cases c24 : x49_2 < (l0_2.length : Int)
          rotate_left
          · rw [if_neg c24] at H
            exact absurd H (by simp)
          rw [if_pos c24] at H
          have c24b0 : decide (x49_2 < (l0_2.length : Int)) = true := decide_eq_true c24
          clear c24
          replace H := Option.bind_eq_some_iff.mp H
          obtain ⟨t103, A250, H⟩ := H
          replace H : (if t103 = true then (some (x49_2, 151)) else ((smf_ends.f k2 (rd_L3 l0_2 x49_2)).bind fun t104 => (if t104 = true then (smf_Check.l0 k2 l0_2 (l0_2.length : Int) (wrap64 (x49_2 + 1))) else (some (x49_2, 160))))) = some (r1, r2) := H
          have A25 := Aside0.mk A250
          clear A250
          by_cases c26 : t103 = true
          · subst c26
            have H1 : (some (x49_2, 151)) = some (r1, r2) := by rw [if_pos rfl] at H; exact H
            clear H
            have H := H1
            clear H1
            simp only [Option.some.injEq, Prod.mk.injEq] at H
            obtain ⟨rfl, rfl⟩ := H
            have p102 : 0 ≤ (x49_2 : Int) := of_decide_eq_true (by first | (with_reducible assumption) | assumption)
            have q102 : x49_2 < (l0_2.length : Int) := of_decide_eq_true (by first | (with_reducible assumption) | assumption)
            obtain ⟨ad102, A102_0, c102_0, e102, hx102_0, hl102_0, hi102_0⟩ := at_L3 HR0_2.out x49_2 p102 q102
            cases e102
            replace hx102_0 := (HB.out.cell (World.block_lt_of_cell? w _ hx102_0)).trans hx102_0
            have HR102_0 := Aside0.mk hi102_0
            have HC102_0 := Aside0.mk hl102_0
            clear hi102_0 hl102_0
            replace p102 := eq_true p102
            replace q102 := eq_true q102
            go_wp2_with (first | ((with_reducible refine gate_callee (f := 39) rfl ?_); refine goesL_ (some 57) rfl rfl Try.func39 (by kernel_rfl) rfl #[.slice A102_0 (rd_L3 l0_2 x49_2).length c102_0, .func (.func 38) #[] #[]] rfl (by (try simp only [List.map_toArray, List.map_cons, List.map_nil]); first | done | rfl | (simp only [List.length_drop, List.length_take]; rfl)) ?_; (with_reducible refine (api_Midi_39.calls k2 _ _ (rd_L3 l0_2 x49_2) true _ ?side1 ?side2 A25.out).mono ?_); (case side1 => repeat (first | exact (Kd.C_below HR102_0.out HB.out) | (with_reducible refine Kd.C_alloc ?_ _) | (with_reducible refine Kd.C_drewN ?_ _) | (with_reducible refine Kd.C_drew ?_))); (case side2 => exact HC102_0.out); rintro e w27 ⟨rfl, hb⟩; refine ⟨_, rfl, ?_⟩; replace BK101 := Aside0.mk (blk_below (bq BK101.out) hb); replace HB := Aside0.mk (below_step (qS1 GE101 HB.out) hb); (try clear hb); (try clear hb2); (try clear hk); (try clear hi)))
            go_ret2
            exact ⟨by first | rfl | (simp [errW_none, errW_some] <;> rfl) | (simp [*, errW_none, errW_some] <;> rfl), qS1 GE101 HB.out⟩
          replace c26 := Bool.eq_false_iff.mpr c26
          subst c26
          have H1 : ((smf_ends.f k2 (rd_L3 l0_2 x49_2)).bind fun t104 => (if t104 = true then (smf_Check.l0 k2 l0_2 (l0_2.length : Int) (wrap64 (x49_2 + 1))) else (some (x49_2, 160)))) = some (r1, r2) := by rw [if_neg (show ¬ (false = true) by decide)] at H; exact H
          clear H
          have H := H1
          clear H1
          replace H := Option.bind_eq_some_iff.mp H
          obtain ⟨t104, A280, H⟩ := H
          replace H : (if t104 = true then (smf_Check.l0 k2 l0_2 (l0_2.length : Int) (wrap64 (x49_2 + 1))) else (some (x49_2, 160))) = some (r1, r2) := H
          have A28 := Aside0.mk A280
          clear A280
          by_cases c29 : t104 = true
          · subst c29
            have H1 : (smf_Check.l0 k2 l0_2 (l0_2.length : Int) (wrap64 (x49_2 + 1))) = some (r1, r2) := by rw [if_pos rfl] at H; exact H
            clear H
            have H := H1
            clear H1
            have H' := Aside0.mk H
            clear H
            have p102 : 0 ≤ (x49_2 : Int) := of_decide_eq_true (by first | (with_reducible assumption) | assumption)
            have q102 : x49_2 < (l0_2.length : Int) := of_decide_eq_true (by first | (with_reducible assumption) | assumption)
            obtain ⟨ad102, A102_0, c102_0, e102, hx102_0, hl102_0, hi102_0⟩ := at_L3 HR0_2.out x49_2 p102 q102
            cases e102
            replace hx102_0 := (HB.out.cell (World.block_lt_of_cell? w _ hx102_0)).trans hx102_0
            have HR102_0 := Aside0.mk hi102_0
            have HC102_0 := Aside0.mk hl102_0
            clear hi102_0 hl102_0
            replace p102 := eq_true p102
            replace q102 := eq_true q102
            go_wp2_with (first | ((with_reducible refine gate_callee (f := 39) rfl ?_); refine goesL_ (some 57) rfl rfl Try.func39 (by kernel_rfl) rfl #[.slice A102_0 (rd_L3 l0_2 x49_2).length c102_0, .func (.func 38) #[] #[]] rfl (by (try simp only [List.map_toArray, List.map_cons, List.map_nil]); first | done | rfl | (simp only [List.length_drop, List.length_take]; rfl)) ?_; (with_reducible refine (api_Midi_39.calls k2 _ _ (rd_L3 l0_2 x49_2) false _ ?side1 ?side2 A25.out).mono ?_); (case side1 => repeat (first | exact (Kd.C_below HR102_0.out HB.out) | (with_reducible refine Kd.C_alloc ?_ _) | (with_reducible refine Kd.C_drewN ?_ _) | (with_reducible refine Kd.C_drew ?_))); (case side2 => exact HC102_0.out); rintro e w30 ⟨rfl, hb⟩; refine ⟨_, rfl, ?_⟩; replace BK101 := Aside0.mk (blk_below (bq BK101.out) hb); replace HB := Aside0.mk (below_step (qS1 GE101 HB.out) hb); (try clear hb); (try clear hb2); (try clear hk); (try clear hi)) | ((with_reducible refine gate_callee (f := 40) rfl ?_); refine goesL_ (some 61) rfl rfl Try.func40 (by kernel_rfl) rfl #[.slice A102_0 (rd_L3 l0_2 x49_2).length c102_0] rfl (by (try simp only [List.map_toArray, List.map_cons, List.map_nil]); first | done | rfl | (simp only [List.length_drop, List.length_take]; rfl)) ?_; (with_reducible refine (smf_ends.calls k2 _ _ (rd_L3 l0_2 x49_2) true _ ?side1 ?side2 A28.out).mono ?_); (case side1 => repeat (first | exact (Kd.C_below HR102_0.out HB.out) | (with_reducible refine Kd.C_alloc ?_ _) | (with_reducible refine Kd.C_drewN ?_ _) | (with_reducible refine Kd.C_drew ?_))); (case side2 => exact HC102_0.out); rintro e w31 ⟨rfl, hb⟩; refine ⟨_, rfl, ?_⟩; replace BK101 := Aside0.mk (blk_below (bq BK101.out) hb); replace HB := Aside0.mk (below_step (qS1 GE101 HB.out) hb); (try clear hb); (try clear hb2); (try clear hk); (try clear hi)))
            go_roundg k2
            case measure => have := HJ1.out; have := HK2.out; omega
            case rel => exact ⟨(wrap64 (x49_2 + 1)), (by first | rfl | (simp; done) | (simp [*]; done)), H', ⟨by have := HJ1.out; have := HK2.out; omega⟩, ⟨bq BK101.out⟩, ⟨qS1 GE101 HB.out⟩⟩
          replace c29 := Bool.eq_false_iff.mpr c29
          subst c29
          have H1 : (some (x49_2, 160)) = some (r1, r2) := by rw [if_neg (show ¬ (false = true) by decide)] at H; exact H
          clear H
          have H := H1
          clear H1
          simp only [Option.some.injEq, Prod.mk.injEq] at H
          obtain ⟨rfl, rfl⟩ := H
          have p102 : 0 ≤ (x49_2 : Int) := of_decide_eq_true (by first | (with_reducible assumption) | assumption)
          have q102 : x49_2 < (l0_2.length : Int) := of_decide_eq_true (by first | (with_reducible assumption) | assumption)
          obtain ⟨ad102, A102_0, c102_0, e102, hx102_0, hl102_0, hi102_0⟩ := at_L3 HR0_2.out x49_2 p102 q102
          cases e102
          replace hx102_0 := (HB.out.cell (World.block_lt_of_cell? w _ hx102_0)).trans hx102_0
          have HR102_0 := Aside0.mk hi102_0
          have HC102_0 := Aside0.mk hl102_0
          clear hi102_0 hl102_0
          replace p102 := eq_true p102
          replace q102 := eq_true q102
          go_wp2_with (first | ((with_reducible refine gate_callee (f := 39) rfl ?_); refine goesL_ (some 57) rfl rfl Try.func39 (by kernel_rfl) rfl #[.slice A102_0 (rd_L3 l0_2 x49_2).length c102_0, .func (.func 38) #[] #[]] rfl (by (try simp only [List.map_toArray, List.map_cons, List.map_nil]); first | done | rfl | (simp only [List.length_drop, List.length_take]; rfl)) ?_; (with_reducible refine (api_Midi_39.calls k2 _ _ (rd_L3 l0_2 x49_2) false _ ?side1 ?side2 A25.out).mono ?_); (case side1 => repeat (first | exact (Kd.C_below HR102_0.out HB.out) | (with_reducible refine Kd.C_alloc ?_ _) | (with_reducible refine Kd.C_drewN ?_ _) | (with_reducible refine Kd.C_drew ?_))); (case side2 => exact HC102_0.out); rintro e w32 ⟨rfl, hb⟩; refine ⟨_, rfl, ?_⟩; replace BK101 := Aside0.mk (blk_below (bq BK101.out) hb); replace HB := Aside0.mk (below_step (qS1 GE101 HB.out) hb); (try clear hb); (try clear hb2); (try clear hk); (try clear hi)) | ((with_reducible refine gate_callee (f := 40) rfl ?_); refine goesL_ (some 61) rfl rfl Try.func40 (by kernel_rfl) rfl #[.slice A102_0 (rd_L3 l0_2 x49_2).length c102_0] rfl (by (try simp only [List.map_toArray, List.map_cons, List.map_nil]); first | done | rfl | (simp only [List.length_drop, List.length_take]; rfl)) ?_; (with_reducible refine (smf_ends.calls k2 _ _ (rd_L3 l0_2 x49_2) false _ ?side1 ?side2 A28.out).mono ?_); (case side1 => repeat (first | exact (Kd.C_below HR102_0.out HB.out) | (with_reducible refine Kd.C_alloc ?_ _) | (with_reducible refine Kd.C_drewN ?_ _) | (with_reducible refine Kd.C_drew ?_))); (case side2 => exact HC102_0.out); rintro e w33 ⟨rfl, hb⟩; refine ⟨_, rfl, ?_⟩; replace BK101 := Aside0.mk (blk_below (bq BK101.out) hb); replace HB := Aside0.mk (below_step (qS1 GE101 HB.out) hb); (try clear hb); (try clear hb2); (try clear hk); (try clear hi)))
          go_ret2
          exact ⟨by first | rfl | (simp [errW_none, errW_some] <;> rfl) | (simp [*, errW_none, errW_some] <;> rfl), qS1 GE101 HB.out⟩
end Go.Proofs.Ytdmnknhlibaaoaa.M
namespace Go.Proofs.Ytdmnknhlibaaoaa.M
open Go.RowKit Go.Proofs.YtdmnknhlibaaoaaW.PrintWords Go.Proofs.YtdmnknhlibaaoaaW.PrintLast Go.Proofs.YtdmnknhlibaaoaaW.PrintMore
attribute [local go_sem] max2_int min2_int max_two min_two max_three min_three max_four min_four
set_option linter.unusedVariables false
set_option linter.unusedSimpArgs false
theorem eqA28 (d : Nat) (w : World) (x0 y0 : Int) (x1 y1 : Int) (x2 y2 : Int) (x3 y3 : Int) (x4 y4 : Int) (x5 y5 : ByteArray) :
    (Op.equalIn (d + 2) 28 (.agg #[.int .i64 x0, .int .i64 x1, .int .i64 x2, .int .i64 x3, .int .i64 x4, .string x5]) (.agg #[.int .i64 y0, .int .i64 y1, .int .i64 y2, .int .i64 y3, .int .i64 y4, .string y5])).run Try.prog w = .ok (x0 == y0 && (x1 == y1 && (x2 == y2 && (x3 == y3 && (x4 == y4 && (x5.toList == y5.toList)))))) w := by
  refine eqA_of Try.underlying28 (by kernel_rfl) ?_
  refine eqf_cons (by rfl) (by go_simp; rfl) (by go_simp; rfl) (by go_simp) ?_
  refine eqf_cons (by rfl) (by go_simp; rfl) (by go_simp; rfl) (by go_simp) ?_
  refine eqf_cons (by rfl) (by go_simp; rfl) (by go_simp; rfl) (by go_simp) ?_
  refine eqf_cons (by rfl) (by go_simp; rfl) (by go_simp; rfl) (by go_simp) ?_
  refine eqf_cons (by rfl) (by go_simp; rfl) (by go_simp; rfl) (by go_simp) ?_
  exact eqf_last (by rfl) (by go_simp; rfl) (by go_simp; rfl) (by go_simp)
end Go.Proofs.Ytdmnknhlibaaoaa.M
