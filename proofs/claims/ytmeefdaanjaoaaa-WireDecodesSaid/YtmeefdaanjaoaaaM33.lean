/- Printed by a program of this session (wip/tools), out of the translation: functions with the same answers as the Go code, and the contracts of the code. Lean checks it. -/
import Derived.Test.YtmeefdaanjaoaaaM0
import Derived.Test.YtmeefdaanjaoaaaM21
import Derived.Test.YtmeefdaanjaoaaaM30
import Derived.Test.YtmeefdaanjaoaaaM32
namespace Go.Proofs.Ytmeefdaanjaoaaa.M
open Go.RowKit Go.Proofs.YtmeefdaanjaoaaaW.PrintWords Go.Proofs.YtmeefdaanjaoaaaW.PrintLast Go.Proofs.YtmeefdaanjaoaaaW.PrintMore
attribute [local go_sem] max2_int min2_int max_two min_two max_three min_three max_four min_four   -- for this text's walks alone
set_option linter.unusedVariables false
set_option linter.unusedSimpArgs false

/-! ### partitaref15_read: function 33 -/
mutual
def partitaref15_read.j0 : Nat → ByteArray → Int → Int → Int → Bool → Int → Int → Int → Int → Int → ByteArray → Option (Int × Int × Int × Int × Int × ByteArray × Int × Int × Int)
  | 0, _, _, _, _, _, _, _, _, _, _, _ => none
  | k + 1, x0, x2, x11, x14, x60, x351000, x351001, x351002, x351003, x351004, x351005 => if x60 = true then (some (x351000, x351001, x351002, x351003, x351004, x351005, 0, 0, 151)) else (if x14 < 128 then (partitaref15_read.j1 k x0 x11 x2 x351000 x351001 x351002 x351003 x351004 x351005) else (partitaref15_read.j1 k x0 (wrap64 (x11 + 1)) x14 x351000 x351001 x351002 x351003 x351004 x351005))
def partitaref15_read.j1 : Nat → ByteArray → Int → Int → Int → Int → Int → Int → Int → ByteArray → Option (Int × Int × Int × Int × Int × ByteArray × Int × Int × Int)
  | 0, _, _, _, _, _, _, _, _, _ => none
  | k + 1, x0, x11, x14, x351000, x351001, x351002, x351003, x351004, x351005 => if x14 < 240 then ((partitaref15_short.f x0 x11 x351000 (wrap64 (Int.tdiv x14 16)) (Int.tmod x14 16) x351003 x351004 x351005).bind fun bt351 => (some (bt351.1, bt351.2.1, bt351.2.2.1, bt351.2.2.2.1, bt351.2.2.2.2.1, bt351.2.2.2.2.2.1, x14, bt351.2.2.2.2.2.2.1, bt351.2.2.2.2.2.2.2))) else (if x14 = 255 then ((partitaref15_long.f k x0 x11 x351000 16 x351002 x14 x351004 x351005).bind fun bt360 => (some (bt360.1, bt360.2.1, bt360.2.2.1, bt360.2.2.2.1, bt360.2.2.2.2.1, bt360.2.2.2.2.2.1, 0, bt360.2.2.2.2.2.2.1, bt360.2.2.2.2.2.2.2))) else ((partitaref15_long.f k x0 x11 x351000 15 x351002 x14 x351004 x351005).bind fun bt369 => (some (bt369.1, bt369.2.1, bt369.2.2.1, bt369.2.2.2.1, bt369.2.2.2.2.1, bt369.2.2.2.2.2.1, 0, bt369.2.2.2.2.2.2.1, bt369.2.2.2.2.2.2.2))))
end
def partitaref15_read.f (k : Nat) (a0 : ByteArray) (a1 : Int) (a2 : Int) : Option (Int × Int × Int × Int × Int × ByteArray × Int × Int × Int) := (partitaref15_ReadVlq.f k a0 a1).bind fun bt347 => (if bt347.2.2 = 0 then (if bt347.2.1 = (a0.size : Int) then (some (bt347.1, 0, 0, 0, 0, (⟨#[]⟩ : ByteArray), 0, 0, 152)) else (if 0 ≤ bt347.2.1 then (if bt347.2.1 < (a0.size : Int) then (if (wrap64 (bt a0 bt347.2.1)) < 128 then (if a2 = 0 then (partitaref15_read.j0 k a0 a2 bt347.2.1 (wrap64 (bt a0 bt347.2.1)) true bt347.1 0 0 0 0 (⟨#[]⟩ : ByteArray)) else (if (wrap64 (bt a0 bt347.2.1)) > 240 then (if (wrap64 (bt a0 bt347.2.1)) = 247 then (partitaref15_read.j0 k a0 a2 bt347.2.1 (wrap64 (bt a0 bt347.2.1)) false bt347.1 0 0 0 0 (⟨#[]⟩ : ByteArray)) else (partitaref15_read.j0 k a0 a2 bt347.2.1 (wrap64 (bt a0 bt347.2.1)) ((wrap64 (bt a0 bt347.2.1)) != 255) bt347.1 0 0 0 0 (⟨#[]⟩ : ByteArray))) else (partitaref15_read.j0 k a0 a2 bt347.2.1 (wrap64 (bt a0 bt347.2.1)) false bt347.1 0 0 0 0 (⟨#[]⟩ : ByteArray)))) else (if (wrap64 (bt a0 bt347.2.1)) > 240 then (if (wrap64 (bt a0 bt347.2.1)) = 247 then (partitaref15_read.j0 k a0 a2 bt347.2.1 (wrap64 (bt a0 bt347.2.1)) false bt347.1 0 0 0 0 (⟨#[]⟩ : ByteArray)) else (partitaref15_read.j0 k a0 a2 bt347.2.1 (wrap64 (bt a0 bt347.2.1)) ((wrap64 (bt a0 bt347.2.1)) != 255) bt347.1 0 0 0 0 (⟨#[]⟩ : ByteArray))) else (partitaref15_read.j0 k a0 a2 bt347.2.1 (wrap64 (bt a0 bt347.2.1)) false bt347.1 0 0 0 0 (⟨#[]⟩ : ByteArray)))) else (none)) else (none))) else (some (bt347.1, 0, 0, 0, 0, (⟨#[]⟩ : ByteArray), 0, 0, bt347.2.2)))
theorem partitaref15_read.mono_l : ∀ k, (∀ y0 y1 y2 y3 y4 y5 y6 y7 y8 y9 y10, LeO (partitaref15_read.j0 k y0 y1 y2 y3 y4 y5 y6 y7 y8 y9 y10) (partitaref15_read.j0 (k + 1) y0 y1 y2 y3 y4 y5 y6 y7 y8 y9 y10)) ∧ (∀ y0 y1 y2 y3 y4 y5 y6 y7 y8, LeO (partitaref15_read.j1 k y0 y1 y2 y3 y4 y5 y6 y7 y8) (partitaref15_read.j1 (k + 1) y0 y1 y2 y3 y4 y5 y6 y7 y8))
  | 0 => ⟨fun _ _ _ _ _ _ _ _ _ _ _ r h => by simp [partitaref15_read.j0] at h, fun _ _ _ _ _ _ _ _ _ r h => by simp [partitaref15_read.j1] at h⟩
  | k + 1 => by
    obtain ⟨ih0, ih1⟩ := partitaref15_read.mono_l k
    refine ⟨?_, ?_⟩
    · intro y0 y1 y2 y3 y4 y5 y6 y7 y8 y9 y10
      unfold partitaref15_read.j0
      repeat' first
      | (with_reducible exact ih0 _ _ _ _ _ _ _ _ _ _ _)
      | (with_reducible exact ih1 _ _ _ _ _ _ _ _ _)
      | (with_reducible exact partitaref15_ReadVlq.mono _ _ _)
      | (with_reducible exact partitaref15_long.mono _ _ _ _ _ _ _ _ _)
      | (with_reducible exact LeO.refl _)
      | (with_reducible exact LeO.none _)
      | (with_reducible refine LeO.ite ?_ ?_)
      | (with_reducible refine LeO.bind ?_ (fun _ => ?_))
      | exact ih0 _ _ _ _ _ _ _ _ _ _ _
      | exact ih1 _ _ _ _ _ _ _ _ _
      | exact partitaref15_ReadVlq.mono _ _ _
      | exact partitaref15_long.mono _ _ _ _ _ _ _ _ _
      | exact LeO.none _
      | refine LeO.ite ?_ ?_
      | refine LeO.bind ?_ (fun _ => ?_)
    · intro y0 y1 y2 y3 y4 y5 y6 y7 y8
      unfold partitaref15_read.j1
      repeat' first
      | (with_reducible exact ih0 _ _ _ _ _ _ _ _ _ _ _)
      | (with_reducible exact ih1 _ _ _ _ _ _ _ _ _)
      | (with_reducible exact partitaref15_ReadVlq.mono _ _ _)
      | (with_reducible exact partitaref15_long.mono _ _ _ _ _ _ _ _ _)
      | (with_reducible exact LeO.refl _)
      | (with_reducible exact LeO.none _)
      | (with_reducible refine LeO.ite ?_ ?_)
      | (with_reducible refine LeO.bind ?_ (fun _ => ?_))
      | exact ih0 _ _ _ _ _ _ _ _ _ _ _
      | exact ih1 _ _ _ _ _ _ _ _ _
      | exact partitaref15_ReadVlq.mono _ _ _
      | exact partitaref15_long.mono _ _ _ _ _ _ _ _ _
      | exact LeO.none _
      | refine LeO.ite ?_ ?_
      | refine LeO.bind ?_ (fun _ => ?_)
theorem partitaref15_read.mono : ∀ a0 a1 a2 k, LeO (partitaref15_read.f k a0 a1 a2) (partitaref15_read.f (k + 1) a0 a1 a2) := by
  intro a0 a1 a2 k
  obtain ⟨ih0, ih1⟩ := partitaref15_read.mono_l k
  unfold partitaref15_read.f
  repeat' first
      | (with_reducible exact ih0 _ _ _ _ _ _ _ _ _ _ _)
      | (with_reducible exact ih1 _ _ _ _ _ _ _ _ _)
      | (with_reducible exact partitaref15_ReadVlq.mono _ _ _)
      | (with_reducible exact partitaref15_long.mono _ _ _ _ _ _ _ _ _)
      | (with_reducible exact LeO.refl _)
      | (with_reducible exact LeO.none _)
      | (with_reducible refine LeO.ite ?_ ?_)
      | (with_reducible refine LeO.bind ?_ (fun _ => ?_))
      | exact ih0 _ _ _ _ _ _ _ _ _ _ _
      | exact ih1 _ _ _ _ _ _ _ _ _
      | exact partitaref15_ReadVlq.mono _ _ _
      | exact partitaref15_long.mono _ _ _ _ _ _ _ _ _
      | exact LeO.none _
      | refine LeO.ite ?_ ?_
      | refine LeO.bind ?_ (fun _ => ?_)
set_option maxHeartbeats 8000000 in
set_option maxRecDepth 100000 in
theorem partitaref15_read.calls (k : Nat) (a0 : ByteArray) (a1 : Int) (a2 : Int) (r1 : Int) (r2 : Int) (r3 : Int) (r4 : Int) (r5 : Int) (r6 : ByteArray) (r7 : Int) (r8 : Int) (r9 : Int) (w : World) (h : partitaref15_read.f k a0 a1 a2 = some (r1, r2, r3, r4, r5, r6, r7, r8, r9)) :
    Calls Try.prog 33 #[.string a0, .int .i64 a1, .int .i64 a2] w fun e w' => e = .returned (.tuple #[.agg #[.int .i64 r1, .int .i64 r2, .int .i64 r3, .int .i64 r4, .int .i64 r5, .string r6], .int .i64 r7, .int .i64 r8, .int .i64 r9]) ∧ Below w.heap.size w w' := by
  have hu31 := Try.underlying31
  have HB := Aside0.mk (Below.refl w.heap.size w)
  have H : ((partitaref15_ReadVlq.f k a0 a1).bind fun bt347 => (if bt347.2.2 = 0 then (if bt347.2.1 = (a0.size : Int) then (some (bt347.1, 0, 0, 0, 0, (⟨#[]⟩ : ByteArray), 0, 0, 152)) else (if 0 ≤ bt347.2.1 then (if bt347.2.1 < (a0.size : Int) then (if (wrap64 (bt a0 bt347.2.1)) < 128 then (if a2 = 0 then (partitaref15_read.j0 k a0 a2 bt347.2.1 (wrap64 (bt a0 bt347.2.1)) true bt347.1 0 0 0 0 (⟨#[]⟩ : ByteArray)) else (if (wrap64 (bt a0 bt347.2.1)) > 240 then (if (wrap64 (bt a0 bt347.2.1)) = 247 then (partitaref15_read.j0 k a0 a2 bt347.2.1 (wrap64 (bt a0 bt347.2.1)) false bt347.1 0 0 0 0 (⟨#[]⟩ : ByteArray)) else (partitaref15_read.j0 k a0 a2 bt347.2.1 (wrap64 (bt a0 bt347.2.1)) ((wrap64 (bt a0 bt347.2.1)) != 255) bt347.1 0 0 0 0 (⟨#[]⟩ : ByteArray))) else (partitaref15_read.j0 k a0 a2 bt347.2.1 (wrap64 (bt a0 bt347.2.1)) false bt347.1 0 0 0 0 (⟨#[]⟩ : ByteArray)))) else (if (wrap64 (bt a0 bt347.2.1)) > 240 then (if (wrap64 (bt a0 bt347.2.1)) = 247 then (partitaref15_read.j0 k a0 a2 bt347.2.1 (wrap64 (bt a0 bt347.2.1)) false bt347.1 0 0 0 0 (⟨#[]⟩ : ByteArray)) else (partitaref15_read.j0 k a0 a2 bt347.2.1 (wrap64 (bt a0 bt347.2.1)) ((wrap64 (bt a0 bt347.2.1)) != 255) bt347.1 0 0 0 0 (⟨#[]⟩ : ByteArray))) else (partitaref15_read.j0 k a0 a2 bt347.2.1 (wrap64 (bt a0 bt347.2.1)) false bt347.1 0 0 0 0 (⟨#[]⟩ : ByteArray)))) else (none)) else (none))) else (some (bt347.1, 0, 0, 0, 0, (⟨#[]⟩ : ByteArray), 0, 0, bt347.2.2)))) = some (r1, r2, r3, r4, r5, r6, r7, r8, r9) := h
  clear h
  replace H := Option.bind_eq_some_iff.mp H
  obtain ⟨⟨t347, t348, t349⟩, A40, H⟩ := H
  replace H : (if t349 = 0 then (if t348 = (a0.size : Int) then (some (t347, 0, 0, 0, 0, (⟨#[]⟩ : ByteArray), 0, 0, 152)) else (if 0 ≤ t348 then (if t348 < (a0.size : Int) then (if (wrap64 (bt a0 t348)) < 128 then (if a2 = 0 then (partitaref15_read.j0 k a0 a2 t348 (wrap64 (bt a0 t348)) true t347 0 0 0 0 (⟨#[]⟩ : ByteArray)) else (if (wrap64 (bt a0 t348)) > 240 then (if (wrap64 (bt a0 t348)) = 247 then (partitaref15_read.j0 k a0 a2 t348 (wrap64 (bt a0 t348)) false t347 0 0 0 0 (⟨#[]⟩ : ByteArray)) else (partitaref15_read.j0 k a0 a2 t348 (wrap64 (bt a0 t348)) ((wrap64 (bt a0 t348)) != 255) t347 0 0 0 0 (⟨#[]⟩ : ByteArray))) else (partitaref15_read.j0 k a0 a2 t348 (wrap64 (bt a0 t348)) false t347 0 0 0 0 (⟨#[]⟩ : ByteArray)))) else (if (wrap64 (bt a0 t348)) > 240 then (if (wrap64 (bt a0 t348)) = 247 then (partitaref15_read.j0 k a0 a2 t348 (wrap64 (bt a0 t348)) false t347 0 0 0 0 (⟨#[]⟩ : ByteArray)) else (partitaref15_read.j0 k a0 a2 t348 (wrap64 (bt a0 t348)) ((wrap64 (bt a0 t348)) != 255) t347 0 0 0 0 (⟨#[]⟩ : ByteArray))) else (partitaref15_read.j0 k a0 a2 t348 (wrap64 (bt a0 t348)) false t347 0 0 0 0 (⟨#[]⟩ : ByteArray)))) else (none)) else (none))) else (some (t347, 0, 0, 0, 0, (⟨#[]⟩ : ByteArray), 0, 0, t349))) = some (r1, r2, r3, r4, r5, r6, r7, r8, r9) := H
  have A4 := Aside0.mk A40
  clear A40
  by_cases c5 : t349 = 0
  · rw [if_pos c5] at H
    have c5b0 : (t349 == 0) = true := beq_iff_eq.mpr c5
    have c5b1 : (t349 != 0) = false := bne_eq_false_iff_eq.mpr c5
    clear c5
    by_cases c6 : t348 = (a0.size : Int)
    · rw [if_pos c6] at H
      have c6b0 : (t348 == (a0.size : Int)) = true := beq_iff_eq.mpr c6
      have c6b1 : (t348 != (a0.size : Int)) = false := bne_eq_false_iff_eq.mpr c6
      clear c6
      simp only [Option.some.injEq, Prod.mk.injEq] at H
      obtain ⟨rfl, rfl, rfl, rfl, rfl, rfl, rfl, rfl, rfl⟩ := H
      go_enter Try.func33, Try.ntmps33
      go_wp2_with (first | ((with_reducible refine gate_dst (N := 6) rfl ?_); refine box_event ?hg (N := 6) ?hd (cs := #[.int .i64 0, .int .i64 0, .int .i64 0, .int .i64 0, .int .i64 0, .string (⟨#[]⟩ : ByteArray)]) (t := 31) ?hr ?_; (case hd => rfl); (case hg => rfl); (case hr => first | (go_simp; done) | (go_simp; rfl)); intro gb346 hg w7 hbox hb; have n0_ := Aside0.mk (below_step (by repeat (first | (with_reducible first | exact HB.out | apply below_alloc | apply pw_below_drewN | apply below_drew1) | exact HB.out)) hb); have n1_ := Aside0.mk (hbox); have n2_ := Aside0.mk ((by rw [hg]; exact (below_size (by repeat (first | (with_reducible first | exact HB.out | apply below_alloc | apply pw_below_drewN | apply below_drew1) | exact HB.out))) : w.heap.size ≤ gb346)); have n3_ := Aside0.mk ((by rw [hg]; exact (below_size (by repeat (first | (with_reducible first | exact HB.out | apply below_alloc | apply pw_below_drewN | apply below_drew1) | exact HB.out))) : w.heap.size ≤ gb346)); clear HB; have HB := n0_; have BK346 := n1_; have GW346 := n2_; have GE346 := n3_; clear n0_ n1_ n2_ n3_; clear hb hbox hg) | ((with_reducible refine gate_callee (f := 18) rfl ?_); refine goesL_ (some 24) rfl rfl Try.func18 (by kernel_rfl) rfl #[.string a0, .int .i64 a1] rfl (by (try simp only [List.map_toArray, List.map_cons, List.map_nil]); first | done | rfl | (simp only [List.length_drop, List.length_take]; rfl)) ?_; (with_reducible refine (partitaref15_ReadVlq.calls k a0 a1 t347 t348 t349 _ A4.out).mono ?_); rintro e w' ⟨rfl, ⟨nd, rfl⟩⟩; refine ⟨_, rfl, ?_⟩; (try (rw [drewN_self w7]; generalize hq_ : World.drewN w7 _ = w7; have n0_ : Aside0 (w7.heap[gb346]? = some (.cells #[.int .i64 0, .int .i64 0, .int .i64 0, .int .i64 0, .int .i64 0, .string (⟨#[]⟩ : ByteArray)] 31 (0, 0))) := ⟨by rw [← hq_]; exact (by (with_reducible repeat (first | refine blk_drewN ?_ _ | refine blk_drew ?_ | refine blk_alloc ?_ _)); exact BK346.out)⟩; have n1_ : Aside0 (Below w.heap.size w w7) := ⟨by rw [← hq_]; exact (by repeat (first | (with_reducible first | exact HB.out | apply below_alloc | apply pw_below_drewN | apply below_drew1 | refine below_set ?_ GE346.out) | exact HB.out))⟩; clear BK346 HB hq_; have BK346 := n0_; have HB := n1_; clear n0_ n1_))) | ((with_reducible refine gate_dst (N := 13) rfl ?_); refine box_event ?hg (N := 13) ?hd (cs := #[.int .i64 0, .int .i64 0, .int .i64 0, .int .i64 0, .int .i64 0, .string (⟨#[]⟩ : ByteArray)]) (t := 31) ?hr ?_; (case hd => rfl); (case hg => rfl); (case hr => first | (go_simp; done) | (go_simp; rfl)); intro gb350 hg w8 hbox hb; have n0_ := Aside0.mk (blk_below (g := gb346) (o := .cells #[.int .i64 0, .int .i64 0, .int .i64 0, .int .i64 0, .int .i64 0, .string (⟨#[]⟩ : ByteArray)] 31 (0, 0)) (by (with_reducible repeat (first | refine blk_drewN ?_ _ | refine blk_drew ?_ | refine blk_alloc ?_ _)); exact BK346.out) hb); have n1_ := Aside0.mk (below_step (by repeat (first | (with_reducible first | exact HB.out | apply below_alloc | apply pw_below_drewN | apply below_drew1 | refine below_set ?_ GE346.out) | exact HB.out)) hb); have n2_ := Aside0.mk (hbox); have n3_ := Aside0.mk ((by rw [hg]; exact (below_size (by repeat (first | (with_reducible first | exact HB.out | apply below_alloc | apply pw_below_drewN | apply below_drew1 | refine below_set ?_ GE346.out) | exact HB.out))) : w.heap.size ≤ gb350)); have n4_ := Aside0.mk ((by rw [hg]; exact (below_size (by repeat (first | (with_reducible first | exact HB.out | apply below_alloc | apply pw_below_drewN | apply below_drew1 | refine below_set ?_ GE346.out) | exact HB.out))) : w.heap.size ≤ gb350)); have n5_ := Aside0.mk ((by rw [hg]; exact Nat.ne_of_lt (blk_lt (g := gb346) (o := .cells #[.int .i64 0, .int .i64 0, .int .i64 0, .int .i64 0, .int .i64 0, .string (⟨#[]⟩ : ByteArray)] 31 (0, 0)) (by (with_reducible repeat (first | refine blk_drewN ?_ _ | refine blk_drew ?_ | refine blk_alloc ?_ _)); exact BK346.out)) : gb346 ≠ gb350)); have n6_ := Aside0.mk ((by rw [hg]; exact Nat.ne_of_gt (blk_lt (g := gb346) (o := .cells #[.int .i64 0, .int .i64 0, .int .i64 0, .int .i64 0, .int .i64 0, .string (⟨#[]⟩ : ByteArray)] 31 (0, 0)) (by (with_reducible repeat (first | refine blk_drewN ?_ _ | refine blk_drew ?_ | refine blk_alloc ?_ _)); exact BK346.out)) : gb350 ≠ gb346)); clear BK346; clear HB; have BK346 := n0_; have HB := n1_; have BK350 := n2_; have GW350 := n3_; have GE350 := n4_; have NB346_350 := n5_; have NB350_346 := n6_; clear n0_ n1_ n2_ n3_ n4_ n5_ n6_; clear hb hbox hg; have hnb9 := NB350_346.out; have hnc9 := NB346_350.out; have hcz10_0 : w8.cell? ⟨gb350, 0, none⟩ = some (.int .i64 0) := (blk_cell BK350.out 0).trans rfl; have hcz10_1 : w8.cell? ⟨gb350, 1, none⟩ = some (.int .i64 0) := (blk_cell BK350.out 1).trans rfl; have hcz10_2 : w8.cell? ⟨gb350, 2, none⟩ = some (.int .i64 0) := (blk_cell BK350.out 2).trans rfl; have hcz10_3 : w8.cell? ⟨gb350, 3, none⟩ = some (.int .i64 0) := (blk_cell BK350.out 3).trans rfl; have hcz10_4 : w8.cell? ⟨gb350, 4, none⟩ = some (.int .i64 0) := (blk_cell BK350.out 4).trans rfl; have hcz10_5 : w8.cell? ⟨gb350, 5, none⟩ = some (.string (⟨#[]⟩ : ByteArray)) := (blk_cell BK350.out 5).trans rfl; have hfz10_0 := blk_frozen BK350.out 0; have hfz10_1 := blk_frozen BK350.out 1; have hfz10_2 := blk_frozen BK350.out 2; have hfz10_3 := blk_frozen BK350.out 3; have hfz10_4 := blk_frozen BK350.out 4; have hfz10_5 := blk_frozen BK350.out 5; have hcz11_0 : w8.cell? ⟨gb346, 0, none⟩ = some (.int .i64 0) := (blk_cell BK346.out 0).trans rfl; have hcz11_1 : w8.cell? ⟨gb346, 1, none⟩ = some (.int .i64 0) := (blk_cell BK346.out 1).trans rfl; have hcz11_2 : w8.cell? ⟨gb346, 2, none⟩ = some (.int .i64 0) := (blk_cell BK346.out 2).trans rfl; have hcz11_3 : w8.cell? ⟨gb346, 3, none⟩ = some (.int .i64 0) := (blk_cell BK346.out 3).trans rfl; have hcz11_4 : w8.cell? ⟨gb346, 4, none⟩ = some (.int .i64 0) := (blk_cell BK346.out 4).trans rfl; have hcz11_5 : w8.cell? ⟨gb346, 5, none⟩ = some (.string (⟨#[]⟩ : ByteArray)) := (blk_cell BK346.out 5).trans rfl; have hfz11_0 := blk_frozen BK346.out 0; have hfz11_1 := blk_frozen BK346.out 1; have hfz11_2 := blk_frozen BK346.out 2; have hfz11_3 := blk_frozen BK346.out 3; have hfz11_4 := blk_frozen BK346.out 4; have hfz11_5 := blk_frozen BK346.out 5))
      refine bodyPost_ret (results_list (rs := [.cell 6 31, .tmp 7, .tmp 8, .tmp 9]) rfl (by simp) (.cell gb346 31 #[.int .i64 t347, .int .i64 0, .int .i64 0, .int .i64 0, .int .i64 0, .string (⟨#[]⟩ : ByteArray)] (0, 0) _ rfl (by (with_reducible repeat (first | refine blk_drewN ?_ _ | refine blk_drew ?_ | refine blk_alloc ?_ _)); refine blk_put (cs := #[.int .i64 t347, .int .i64 0, .int .i64 0, .int .i64 0, .int .i64 0, .string (⟨#[]⟩ : ByteArray)]) ?_ 5 _ rfl; (with_reducible repeat (first | refine blk_drewN ?_ _ | refine blk_drew ?_ | refine blk_alloc ?_ _)); refine blk_put (cs := #[.int .i64 t347, .int .i64 0, .int .i64 0, .int .i64 0, .int .i64 0, .string (⟨#[]⟩ : ByteArray)]) ?_ 4 _ rfl; (with_reducible repeat (first | refine blk_drewN ?_ _ | refine blk_drew ?_ | refine blk_alloc ?_ _)); refine blk_put (cs := #[.int .i64 t347, .int .i64 0, .int .i64 0, .int .i64 0, .int .i64 0, .string (⟨#[]⟩ : ByteArray)]) ?_ 3 _ rfl; (with_reducible repeat (first | refine blk_drewN ?_ _ | refine blk_drew ?_ | refine blk_alloc ?_ _)); refine blk_put (cs := #[.int .i64 t347, .int .i64 0, .int .i64 0, .int .i64 0, .int .i64 0, .string (⟨#[]⟩ : ByteArray)]) ?_ 2 _ rfl; (with_reducible repeat (first | refine blk_drewN ?_ _ | refine blk_drew ?_ | refine blk_alloc ?_ _)); refine blk_put (cs := #[.int .i64 t347, .int .i64 0, .int .i64 0, .int .i64 0, .int .i64 0, .string (⟨#[]⟩ : ByteArray)]) ?_ 1 _ rfl; (with_reducible repeat (first | refine blk_drewN ?_ _ | refine blk_drew ?_ | refine blk_alloc ?_ _)); refine blk_put (cs := #[.int .i64 0, .int .i64 0, .int .i64 0, .int .i64 0, .int .i64 0, .string (⟨#[]⟩ : ByteArray)]) ?_ 0 _ rfl; (with_reducible repeat (first | refine blk_drewN ?_ _ | refine blk_drew ?_ | refine blk_alloc ?_ _)); refine blk_far ?_ NB346_350.out _; (with_reducible repeat (first | refine blk_drewN ?_ _ | refine blk_drew ?_ | refine blk_alloc ?_ _)); refine blk_far ?_ NB346_350.out _; (with_reducible repeat (first | refine blk_drewN ?_ _ | refine blk_drew ?_ | refine blk_alloc ?_ _)); refine blk_far ?_ NB346_350.out _; (with_reducible repeat (first | refine blk_drewN ?_ _ | refine blk_drew ?_ | refine blk_alloc ?_ _)); refine blk_far ?_ NB346_350.out _; (with_reducible repeat (first | refine blk_drewN ?_ _ | refine blk_drew ?_ | refine blk_alloc ?_ _)); refine blk_far ?_ NB346_350.out _; (with_reducible repeat (first | refine blk_drewN ?_ _ | refine blk_drew ?_ | refine blk_alloc ?_ _)); refine blk_far ?_ NB346_350.out _; (with_reducible repeat (first | refine blk_drewN ?_ _ | refine blk_drew ?_ | refine blk_alloc ?_ _)); exact BK346.out) Try.underlying31 rfl (by kernel_rfl) (.tmp (.tmp (.tmp .nil))))) rfl ?_
      exact ⟨by first | rfl | (simp [errW_none, errW_some] <;> rfl) | (simp [*, errW_none, errW_some] <;> rfl), by repeat (first | (with_reducible first | exact HB.out | apply below_alloc | apply pw_below_drewN | apply below_drew1 | refine below_set ?_ GE346.out | refine below_set ?_ GE350.out) | exact HB.out)⟩
    · rw [if_neg c6] at H
      have c6b0 : (t348 == (a0.size : Int)) = false := beq_eq_false_iff_ne.mpr c6
      have c6b1 : (t348 != (a0.size : Int)) = true := bne_iff_ne.mpr c6
      by_cases c12 : 0 ≤ t348
      · rw [if_pos c12] at H
        have c12b0 : decide (0 ≤ t348) = true := decide_eq_true c12
        clear c12
        by_cases c13 : t348 < (a0.size : Int)
        · rw [if_pos c13] at H
          have c13b0 : decide (t348 < (a0.size : Int)) = true := decide_eq_true c13
          clear c13
          have HC15 := Aside0.mk H
          clear H
          go_enter Try.func33, Try.ntmps33
          go_upto_region 8 with (first | ((with_reducible refine gate_dst (N := 6) rfl ?_); refine box_event ?hg (N := 6) ?hd (cs := #[.int .i64 0, .int .i64 0, .int .i64 0, .int .i64 0, .int .i64 0, .string (⟨#[]⟩ : ByteArray)]) (t := 31) ?hr ?_; (case hd => rfl); (case hg => rfl); (case hr => first | (go_simp; done) | (go_simp; rfl)); intro gb346 hg w16 hbox hb; have n0_ := Aside0.mk (below_step (by repeat (first | (with_reducible first | exact HB.out | apply below_alloc | apply pw_below_drewN | apply below_drew1) | exact HB.out)) hb); have n1_ := Aside0.mk (hbox); have n2_ := Aside0.mk ((by rw [hg]; exact (below_size (by repeat (first | (with_reducible first | exact HB.out | apply below_alloc | apply pw_below_drewN | apply below_drew1) | exact HB.out))) : w.heap.size ≤ gb346)); have n3_ := Aside0.mk ((by rw [hg]; exact (below_size (by repeat (first | (with_reducible first | exact HB.out | apply below_alloc | apply pw_below_drewN | apply below_drew1) | exact HB.out))) : w.heap.size ≤ gb346)); clear HB; have HB := n0_; have BK346 := n1_; have GW346 := n2_; have GE346 := n3_; clear n0_ n1_ n2_ n3_; clear hb hbox hg) | ((with_reducible refine gate_callee (f := 18) rfl ?_); refine goesL_ (some 24) rfl rfl Try.func18 (by kernel_rfl) rfl #[.string a0, .int .i64 a1] rfl (by (try simp only [List.map_toArray, List.map_cons, List.map_nil]); first | done | rfl | (simp only [List.length_drop, List.length_take]; rfl)) ?_; (with_reducible refine (partitaref15_ReadVlq.calls k a0 a1 t347 t348 t349 _ A4.out).mono ?_); rintro e w' ⟨rfl, ⟨nd, rfl⟩⟩; refine ⟨_, rfl, ?_⟩; (try (rw [drewN_self w16]; generalize hq_ : World.drewN w16 _ = w16; have n0_ : Aside0 (w16.heap[gb346]? = some (.cells #[.int .i64 0, .int .i64 0, .int .i64 0, .int .i64 0, .int .i64 0, .string (⟨#[]⟩ : ByteArray)] 31 (0, 0))) := ⟨by rw [← hq_]; exact (by (with_reducible repeat (first | refine blk_drewN ?_ _ | refine blk_drew ?_ | refine blk_alloc ?_ _)); exact BK346.out)⟩; have n1_ : Aside0 (Below w.heap.size w w16) := ⟨by rw [← hq_]; exact (by repeat (first | (with_reducible first | exact HB.out | apply below_alloc | apply pw_below_drewN | apply below_drew1 | refine below_set ?_ GE346.out) | exact HB.out))⟩; clear BK346 HB hq_; have BK346 := n0_; have HB := n1_; clear n0_ n1_))) | ((with_reducible refine gate_dst (N := 13) rfl ?_); refine box_event ?hg (N := 13) ?hd (cs := #[.int .i64 0, .int .i64 0, .int .i64 0, .int .i64 0, .int .i64 0, .string (⟨#[]⟩ : ByteArray)]) (t := 31) ?hr ?_; (case hd => rfl); (case hg => rfl); (case hr => first | (go_simp; done) | (go_simp; rfl)); intro gb350 hg w17 hbox hb; have n0_ := Aside0.mk (blk_below (g := gb346) (o := .cells #[.int .i64 0, .int .i64 0, .int .i64 0, .int .i64 0, .int .i64 0, .string (⟨#[]⟩ : ByteArray)] 31 (0, 0)) (by (with_reducible repeat (first | refine blk_drewN ?_ _ | refine blk_drew ?_ | refine blk_alloc ?_ _)); exact BK346.out) hb); have n1_ := Aside0.mk (below_step (by repeat (first | (with_reducible first | exact HB.out | apply below_alloc | apply pw_below_drewN | apply below_drew1 | refine below_set ?_ GE346.out) | exact HB.out)) hb); have n2_ := Aside0.mk (hbox); have n3_ := Aside0.mk ((by rw [hg]; exact (below_size (by repeat (first | (with_reducible first | exact HB.out | apply below_alloc | apply pw_below_drewN | apply below_drew1 | refine below_set ?_ GE346.out) | exact HB.out))) : w.heap.size ≤ gb350)); have n4_ := Aside0.mk ((by rw [hg]; exact (below_size (by repeat (first | (with_reducible first | exact HB.out | apply below_alloc | apply pw_below_drewN | apply below_drew1 | refine below_set ?_ GE346.out) | exact HB.out))) : w.heap.size ≤ gb350)); have n5_ := Aside0.mk ((by rw [hg]; exact Nat.ne_of_lt (blk_lt (g := gb346) (o := .cells #[.int .i64 0, .int .i64 0, .int .i64 0, .int .i64 0, .int .i64 0, .string (⟨#[]⟩ : ByteArray)] 31 (0, 0)) (by (with_reducible repeat (first | refine blk_drewN ?_ _ | refine blk_drew ?_ | refine blk_alloc ?_ _)); exact BK346.out)) : gb346 ≠ gb350)); have n6_ := Aside0.mk ((by rw [hg]; exact Nat.ne_of_gt (blk_lt (g := gb346) (o := .cells #[.int .i64 0, .int .i64 0, .int .i64 0, .int .i64 0, .int .i64 0, .string (⟨#[]⟩ : ByteArray)] 31 (0, 0)) (by (with_reducible repeat (first | refine blk_drewN ?_ _ | refine blk_drew ?_ | refine blk_alloc ?_ _)); exact BK346.out)) : gb350 ≠ gb346)); clear BK346; clear HB; have BK346 := n0_; have HB := n1_; have BK350 := n2_; have GW350 := n3_; have GE350 := n4_; have NB346_350 := n5_; have NB350_346 := n6_; clear n0_ n1_ n2_ n3_ n4_ n5_ n6_; clear hb hbox hg; have hnb18 := NB350_346.out; have hnc18 := NB346_350.out; have hcz19_0 : w17.cell? ⟨gb350, 0, none⟩ = some (.int .i64 0) := (blk_cell BK350.out 0).trans rfl; have hcz19_1 : w17.cell? ⟨gb350, 1, none⟩ = some (.int .i64 0) := (blk_cell BK350.out 1).trans rfl; have hcz19_2 : w17.cell? ⟨gb350, 2, none⟩ = some (.int .i64 0) := (blk_cell BK350.out 2).trans rfl; have hcz19_3 : w17.cell? ⟨gb350, 3, none⟩ = some (.int .i64 0) := (blk_cell BK350.out 3).trans rfl; have hcz19_4 : w17.cell? ⟨gb350, 4, none⟩ = some (.int .i64 0) := (blk_cell BK350.out 4).trans rfl; have hcz19_5 : w17.cell? ⟨gb350, 5, none⟩ = some (.string (⟨#[]⟩ : ByteArray)) := (blk_cell BK350.out 5).trans rfl; have hfz19_0 := blk_frozen BK350.out 0; have hfz19_1 := blk_frozen BK350.out 1; have hfz19_2 := blk_frozen BK350.out 2; have hfz19_3 := blk_frozen BK350.out 3; have hfz19_4 := blk_frozen BK350.out 4; have hfz19_5 := blk_frozen BK350.out 5; have p14 : 0 ≤ (t348 : Int) := of_decide_eq_true (by first | (with_reducible assumption) | assumption); have q14 : t348 < (a0.size : Int) := of_decide_eq_true (by first | (with_reducible assumption) | assumption); have hx14 := bt_at a0 t348; replace p14 := eq_true p14; replace q14 := eq_true q14))
          (try simp only [Act.put, List.setIfInBounds_toArray, List.set_cons_zero, List.set_cons_succ])
          go_cut [60] (fun v60 wc => ∃ (kq : Nat) (x60_14 : Bool), v60 = .bool x60_14 ∧ Aside0 (partitaref15_read.j0 kq a0 a2 t348 (wrap64 (bt a0 t348)) x60_14 t347 0 0 0 0 (⟨#[]⟩ : ByteArray) = some (r1, r2, r3, r4, r5, r6, r7, r8, r9)) ∧ Aside0 (kq ≤ k) ∧ Aside0 (wc.heap[gb346]? = some (.cells #[.int .i64 0, .int .i64 0, .int .i64 0, .int .i64 0, .int .i64 0, .string (⟨#[]⟩ : ByteArray)] 31 (0, 0))) ∧ Aside0 (wc.heap[gb350]? = some (.cells #[.int .i64 t347, .int .i64 0, .int .i64 0, .int .i64 0, .int .i64 0, .string (⟨#[]⟩ : ByteArray)] 31 (0, 0))) ∧ Aside0 (Below w.heap.size w wc))
          case first =>
            have H := HC15.out
            clear HC15
            by_cases c20 : (wrap64 (bt a0 t348)) < 128
            · rw [if_pos c20] at H
              have c20b0 : decide ((wrap64 (bt a0 t348)) < 128) = true := decide_eq_true c20
              clear c20
              (first | rw [c20b0] | (simp only [i64_w, i32_w]; rw [c20b0]) | skip)
              by_cases c21 : a2 = 0
              · rw [if_pos c21] at H
                have c21b0 : (a2 == 0) = true := beq_iff_eq.mpr c21
                have c21b1 : (a2 != 0) = false := bne_eq_false_iff_eq.mpr c21
                clear c21
                have H' := Aside0.mk H
                clear H
                go_wp2
                go_meet
                case rel => exact ⟨_, (true), (by first | rfl | (simp; done) | (simp [*]; done)), H', ⟨by first | omega | exact Nat.le_refl _⟩, ⟨by (with_reducible repeat (first | refine blk_drewN ?_ _ | refine blk_drew ?_ | refine blk_alloc ?_ _)); refine blk_far ?_ NB346_350.out _; (with_reducible repeat (first | refine blk_drewN ?_ _ | refine blk_drew ?_ | refine blk_alloc ?_ _)); refine blk_far ?_ NB346_350.out _; (with_reducible repeat (first | refine blk_drewN ?_ _ | refine blk_drew ?_ | refine blk_alloc ?_ _)); refine blk_far ?_ NB346_350.out _; (with_reducible repeat (first | refine blk_drewN ?_ _ | refine blk_drew ?_ | refine blk_alloc ?_ _)); refine blk_far ?_ NB346_350.out _; (with_reducible repeat (first | refine blk_drewN ?_ _ | refine blk_drew ?_ | refine blk_alloc ?_ _)); refine blk_far ?_ NB346_350.out _; (with_reducible repeat (first | refine blk_drewN ?_ _ | refine blk_drew ?_ | refine blk_alloc ?_ _)); refine blk_far ?_ NB346_350.out _; (with_reducible repeat (first | refine blk_drewN ?_ _ | refine blk_drew ?_ | refine blk_alloc ?_ _)); exact BK346.out⟩, ⟨by (with_reducible repeat (first | refine blk_drewN ?_ _ | refine blk_drew ?_ | refine blk_alloc ?_ _)); refine blk_put (cs := #[.int .i64 t347, .int .i64 0, .int .i64 0, .int .i64 0, .int .i64 0, .string (⟨#[]⟩ : ByteArray)]) ?_ 5 _ rfl; (with_reducible repeat (first | refine blk_drewN ?_ _ | refine blk_drew ?_ | refine blk_alloc ?_ _)); refine blk_put (cs := #[.int .i64 t347, .int .i64 0, .int .i64 0, .int .i64 0, .int .i64 0, .string (⟨#[]⟩ : ByteArray)]) ?_ 4 _ rfl; (with_reducible repeat (first | refine blk_drewN ?_ _ | refine blk_drew ?_ | refine blk_alloc ?_ _)); refine blk_put (cs := #[.int .i64 t347, .int .i64 0, .int .i64 0, .int .i64 0, .int .i64 0, .string (⟨#[]⟩ : ByteArray)]) ?_ 3 _ rfl; (with_reducible repeat (first | refine blk_drewN ?_ _ | refine blk_drew ?_ | refine blk_alloc ?_ _)); refine blk_put (cs := #[.int .i64 t347, .int .i64 0, .int .i64 0, .int .i64 0, .int .i64 0, .string (⟨#[]⟩ : ByteArray)]) ?_ 2 _ rfl; (with_reducible repeat (first | refine blk_drewN ?_ _ | refine blk_drew ?_ | refine blk_alloc ?_ _)); refine blk_put (cs := #[.int .i64 t347, .int .i64 0, .int .i64 0, .int .i64 0, .int .i64 0, .string (⟨#[]⟩ : ByteArray)]) ?_ 1 _ rfl; (with_reducible repeat (first | refine blk_drewN ?_ _ | refine blk_drew ?_ | refine blk_alloc ?_ _)); refine blk_put (cs := #[.int .i64 0, .int .i64 0, .int .i64 0, .int .i64 0, .int .i64 0, .string (⟨#[]⟩ : ByteArray)]) ?_ 0 _ rfl; (with_reducible repeat (first | refine blk_drewN ?_ _ | refine blk_drew ?_ | refine blk_alloc ?_ _)); exact BK350.out⟩, ⟨by repeat (first | (with_reducible first | exact HB.out | apply below_alloc | apply pw_below_drewN | apply below_drew1 | refine below_set ?_ GE346.out | refine below_set ?_ GE350.out) | exact HB.out)⟩⟩
              · rw [if_neg c21] at H
                have c21b0 : (a2 == 0) = false := beq_eq_false_iff_ne.mpr c21
                have c21b1 : (a2 != 0) = true := bne_iff_ne.mpr c21
                by_cases c22 : (wrap64 (bt a0 t348)) > 240
                · rw [if_pos c22] at H
                  have c22b0 : decide (240 < (wrap64 (bt a0 t348))) = true := decide_eq_true c22
                  clear c22
                  by_cases c23 : (wrap64 (bt a0 t348)) = 247
                  · rw [if_pos c23] at H
                    have c23b0 : ((wrap64 (bt a0 t348)) == 247) = true := beq_iff_eq.mpr c23
                    have c23b1 : ((wrap64 (bt a0 t348)) != 247) = false := bne_eq_false_iff_eq.mpr c23
                    clear c23
                    have H' := Aside0.mk H
                    clear H
                    go_wp2
                    go_meet
                    case rel => exact ⟨_, (false), (by first | rfl | (simp; done) | (simp [*]; done)), H', ⟨by first | omega | exact Nat.le_refl _⟩, ⟨by (with_reducible repeat (first | refine blk_drewN ?_ _ | refine blk_drew ?_ | refine blk_alloc ?_ _)); refine blk_far ?_ NB346_350.out _; (with_reducible repeat (first | refine blk_drewN ?_ _ | refine blk_drew ?_ | refine blk_alloc ?_ _)); refine blk_far ?_ NB346_350.out _; (with_reducible repeat (first | refine blk_drewN ?_ _ | refine blk_drew ?_ | refine blk_alloc ?_ _)); refine blk_far ?_ NB346_350.out _; (with_reducible repeat (first | refine blk_drewN ?_ _ | refine blk_drew ?_ | refine blk_alloc ?_ _)); refine blk_far ?_ NB346_350.out _; (with_reducible repeat (first | refine blk_drewN ?_ _ | refine blk_drew ?_ | refine blk_alloc ?_ _)); refine blk_far ?_ NB346_350.out _; (with_reducible repeat (first | refine blk_drewN ?_ _ | refine blk_drew ?_ | refine blk_alloc ?_ _)); refine blk_far ?_ NB346_350.out _; (with_reducible repeat (first | refine blk_drewN ?_ _ | refine blk_drew ?_ | refine blk_alloc ?_ _)); exact BK346.out⟩, ⟨by (with_reducible repeat (first | refine blk_drewN ?_ _ | refine blk_drew ?_ | refine blk_alloc ?_ _)); refine blk_put (cs := #[.int .i64 t347, .int .i64 0, .int .i64 0, .int .i64 0, .int .i64 0, .string (⟨#[]⟩ : ByteArray)]) ?_ 5 _ rfl; (with_reducible repeat (first | refine blk_drewN ?_ _ | refine blk_drew ?_ | refine blk_alloc ?_ _)); refine blk_put (cs := #[.int .i64 t347, .int .i64 0, .int .i64 0, .int .i64 0, .int .i64 0, .string (⟨#[]⟩ : ByteArray)]) ?_ 4 _ rfl; (with_reducible repeat (first | refine blk_drewN ?_ _ | refine blk_drew ?_ | refine blk_alloc ?_ _)); refine blk_put (cs := #[.int .i64 t347, .int .i64 0, .int .i64 0, .int .i64 0, .int .i64 0, .string (⟨#[]⟩ : ByteArray)]) ?_ 3 _ rfl; (with_reducible repeat (first | refine blk_drewN ?_ _ | refine blk_drew ?_ | refine blk_alloc ?_ _)); refine blk_put (cs := #[.int .i64 t347, .int .i64 0, .int .i64 0, .int .i64 0, .int .i64 0, .string (⟨#[]⟩ : ByteArray)]) ?_ 2 _ rfl; (with_reducible repeat (first | refine blk_drewN ?_ _ | refine blk_drew ?_ | refine blk_alloc ?_ _)); refine blk_put (cs := #[.int .i64 t347, .int .i64 0, .int .i64 0, .int .i64 0, .int .i64 0, .string (⟨#[]⟩ : ByteArray)]) ?_ 1 _ rfl; (with_reducible repeat (first | refine blk_drewN ?_ _ | refine blk_drew ?_ | refine blk_alloc ?_ _)); refine blk_put (cs := #[.int .i64 0, .int .i64 0, .int .i64 0, .int .i64 0, .int .i64 0, .string (⟨#[]⟩ : ByteArray)]) ?_ 0 _ rfl; (with_reducible repeat (first | refine blk_drewN ?_ _ | refine blk_drew ?_ | refine blk_alloc ?_ _)); exact BK350.out⟩, ⟨by repeat (first | (with_reducible first | exact HB.out | apply below_alloc | apply pw_below_drewN | apply below_drew1 | refine below_set ?_ GE346.out | refine below_set ?_ GE350.out) | exact HB.out)⟩⟩
                  · rw [if_neg c23] at H
                    have c23b0 : ((wrap64 (bt a0 t348)) == 247) = false := beq_eq_false_iff_ne.mpr c23
                    have c23b1 : ((wrap64 (bt a0 t348)) != 247) = true := bne_iff_ne.mpr c23
                    have H' := Aside0.mk H
                    clear H
                    go_wp2
                    go_meet
                    case rel => exact ⟨_, (((wrap64 (bt a0 t348)) != 255)), (by first | rfl | (simp; done) | (simp [*]; done)), H', ⟨by first | omega | exact Nat.le_refl _⟩, ⟨by (with_reducible repeat (first | refine blk_drewN ?_ _ | refine blk_drew ?_ | refine blk_alloc ?_ _)); refine blk_far ?_ NB346_350.out _; (with_reducible repeat (first | refine blk_drewN ?_ _ | refine blk_drew ?_ | refine blk_alloc ?_ _)); refine blk_far ?_ NB346_350.out _; (with_reducible repeat (first | refine blk_drewN ?_ _ | refine blk_drew ?_ | refine blk_alloc ?_ _)); refine blk_far ?_ NB346_350.out _; (with_reducible repeat (first | refine blk_drewN ?_ _ | refine blk_drew ?_ | refine blk_alloc ?_ _)); refine blk_far ?_ NB346_350.out _; (with_reducible repeat (first | refine blk_drewN ?_ _ | refine blk_drew ?_ | refine blk_alloc ?_ _)); refine blk_far ?_ NB346_350.out _; (with_reducible repeat (first | refine blk_drewN ?_ _ | refine blk_drew ?_ | refine blk_alloc ?_ _)); refine blk_far ?_ NB346_350.out _; (with_reducible repeat (first | refine blk_drewN ?_ _ | refine blk_drew ?_ | refine blk_alloc ?_ _)); exact BK346.out⟩, ⟨by (with_reducible repeat (first | refine blk_drewN ?_ _ | refine blk_drew ?_ | refine blk_alloc ?_ _)); refine blk_put (cs := #[.int .i64 t347, .int .i64 0, .int .i64 0, .int .i64 0, .int .i64 0, .string (⟨#[]⟩ : ByteArray)]) ?_ 5 _ rfl; (with_reducible repeat (first | refine blk_drewN ?_ _ | refine blk_drew ?_ | refine blk_alloc ?_ _)); refine blk_put (cs := #[.int .i64 t347, .int .i64 0, .int .i64 0, .int .i64 0, .int .i64 0, .string (⟨#[]⟩ : ByteArray)]) ?_ 4 _ rfl; (with_reducible repeat (first | refine blk_drewN ?_ _ | refine blk_drew ?_ | refine blk_alloc ?_ _)); refine blk_put (cs := #[.int .i64 t347, .int .i64 0, .int .i64 0, .int .i64 0, .int .i64 0, .string (⟨#[]⟩ : ByteArray)]) ?_ 3 _ rfl; (with_reducible repeat (first | refine blk_drewN ?_ _ | refine blk_drew ?_ | refine blk_alloc ?_ _)); refine blk_put (cs := #[.int .i64 t347, .int .i64 0, .int .i64 0, .int .i64 0, .int .i64 0, .string (⟨#[]⟩ : ByteArray)]) ?_ 2 _ rfl; (with_reducible repeat (first | refine blk_drewN ?_ _ | refine blk_drew ?_ | refine blk_alloc ?_ _)); refine blk_put (cs := #[.int .i64 t347, .int .i64 0, .int .i64 0, .int .i64 0, .int .i64 0, .string (⟨#[]⟩ : ByteArray)]) ?_ 1 _ rfl; (with_reducible repeat (first | refine blk_drewN ?_ _ | refine blk_drew ?_ | refine blk_alloc ?_ _)); refine blk_put (cs := #[.int .i64 0, .int .i64 0, .int .i64 0, .int .i64 0, .int .i64 0, .string (⟨#[]⟩ : ByteArray)]) ?_ 0 _ rfl; (with_reducible repeat (first | refine blk_drewN ?_ _ | refine blk_drew ?_ | refine blk_alloc ?_ _)); exact BK350.out⟩, ⟨by repeat (first | (with_reducible first | exact HB.out | apply below_alloc | apply pw_below_drewN | apply below_drew1 | refine below_set ?_ GE346.out | refine below_set ?_ GE350.out) | exact HB.out)⟩⟩
                · rw [if_neg c22] at H
                  have c22b0 : decide (240 < (wrap64 (bt a0 t348))) = false := decide_eq_false c22
                  clear c22
                  have H' := Aside0.mk H
                  clear H
                  go_wp2
                  go_meet
                  case rel => exact ⟨_, (false), (by first | rfl | (simp; done) | (simp [*]; done)), H', ⟨by first | omega | exact Nat.le_refl _⟩, ⟨by (with_reducible repeat (first | refine blk_drewN ?_ _ | refine blk_drew ?_ | refine blk_alloc ?_ _)); refine blk_far ?_ NB346_350.out _; (with_reducible repeat (first | refine blk_drewN ?_ _ | refine blk_drew ?_ | refine blk_alloc ?_ _)); refine blk_far ?_ NB346_350.out _; (with_reducible repeat (first | refine blk_drewN ?_ _ | refine blk_drew ?_ | refine blk_alloc ?_ _)); refine blk_far ?_ NB346_350.out _; (with_reducible repeat (first | refine blk_drewN ?_ _ | refine blk_drew ?_ | refine blk_alloc ?_ _)); refine blk_far ?_ NB346_350.out _; (with_reducible repeat (first | refine blk_drewN ?_ _ | refine blk_drew ?_ | refine blk_alloc ?_ _)); refine blk_far ?_ NB346_350.out _; (with_reducible repeat (first | refine blk_drewN ?_ _ | refine blk_drew ?_ | refine blk_alloc ?_ _)); refine blk_far ?_ NB346_350.out _; (with_reducible repeat (first | refine blk_drewN ?_ _ | refine blk_drew ?_ | refine blk_alloc ?_ _)); exact BK346.out⟩, ⟨by (with_reducible repeat (first | refine blk_drewN ?_ _ | refine blk_drew ?_ | refine blk_alloc ?_ _)); refine blk_put (cs := #[.int .i64 t347, .int .i64 0, .int .i64 0, .int .i64 0, .int .i64 0, .string (⟨#[]⟩ : ByteArray)]) ?_ 5 _ rfl; (with_reducible repeat (first | refine blk_drewN ?_ _ | refine blk_drew ?_ | refine blk_alloc ?_ _)); refine blk_put (cs := #[.int .i64 t347, .int .i64 0, .int .i64 0, .int .i64 0, .int .i64 0, .string (⟨#[]⟩ : ByteArray)]) ?_ 4 _ rfl; (with_reducible repeat (first | refine blk_drewN ?_ _ | refine blk_drew ?_ | refine blk_alloc ?_ _)); refine blk_put (cs := #[.int .i64 t347, .int .i64 0, .int .i64 0, .int .i64 0, .int .i64 0, .string (⟨#[]⟩ : ByteArray)]) ?_ 3 _ rfl; (with_reducible repeat (first | refine blk_drewN ?_ _ | refine blk_drew ?_ | refine blk_alloc ?_ _)); refine blk_put (cs := #[.int .i64 t347, .int .i64 0, .int .i64 0, .int .i64 0, .int .i64 0, .string (⟨#[]⟩ : ByteArray)]) ?_ 2 _ rfl; (with_reducible repeat (first | refine blk_drewN ?_ _ | refine blk_drew ?_ | refine blk_alloc ?_ _)); refine blk_put (cs := #[.int .i64 t347, .int .i64 0, .int .i64 0, .int .i64 0, .int .i64 0, .string (⟨#[]⟩ : ByteArray)]) ?_ 1 _ rfl; (with_reducible repeat (first | refine blk_drewN ?_ _ | refine blk_drew ?_ | refine blk_alloc ?_ _)); refine blk_put (cs := #[.int .i64 0, .int .i64 0, .int .i64 0, .int .i64 0, .int .i64 0, .string (⟨#[]⟩ : ByteArray)]) ?_ 0 _ rfl; (with_reducible repeat (first | refine blk_drewN ?_ _ | refine blk_drew ?_ | refine blk_alloc ?_ _)); exact BK350.out⟩, ⟨by repeat (first | (with_reducible first | exact HB.out | apply below_alloc | apply pw_below_drewN | apply below_drew1 | refine below_set ?_ GE346.out | refine below_set ?_ GE350.out) | exact HB.out)⟩⟩
            · rw [if_neg c20] at H
              have c20b0 : decide ((wrap64 (bt a0 t348)) < 128) = false := decide_eq_false c20
              clear c20
              (first | rw [c20b0] | (simp only [i64_w, i32_w]; rw [c20b0]) | skip)
              by_cases c24 : (wrap64 (bt a0 t348)) > 240
              · rw [if_pos c24] at H
                have c24b0 : decide (240 < (wrap64 (bt a0 t348))) = true := decide_eq_true c24
                clear c24
                by_cases c25 : (wrap64 (bt a0 t348)) = 247
                · rw [if_pos c25] at H
                  have c25b0 : ((wrap64 (bt a0 t348)) == 247) = true := beq_iff_eq.mpr c25
                  have c25b1 : ((wrap64 (bt a0 t348)) != 247) = false := bne_eq_false_iff_eq.mpr c25
                  clear c25
                  have H' := Aside0.mk H
                  clear H
                  go_wp2
                  go_meet
                  case rel => exact ⟨_, (false), (by first | rfl | (simp; done) | (simp [*]; done)), H', ⟨by first | omega | exact Nat.le_refl _⟩, ⟨by (with_reducible repeat (first | refine blk_drewN ?_ _ | refine blk_drew ?_ | refine blk_alloc ?_ _)); refine blk_far ?_ NB346_350.out _; (with_reducible repeat (first | refine blk_drewN ?_ _ | refine blk_drew ?_ | refine blk_alloc ?_ _)); refine blk_far ?_ NB346_350.out _; (with_reducible repeat (first | refine blk_drewN ?_ _ | refine blk_drew ?_ | refine blk_alloc ?_ _)); refine blk_far ?_ NB346_350.out _; (with_reducible repeat (first | refine blk_drewN ?_ _ | refine blk_drew ?_ | refine blk_alloc ?_ _)); refine blk_far ?_ NB346_350.out _; (with_reducible repeat (first | refine blk_drewN ?_ _ | refine blk_drew ?_ | refine blk_alloc ?_ _)); refine blk_far ?_ NB346_350.out _; (with_reducible repeat (first | refine blk_drewN ?_ _ | refine blk_drew ?_ | refine blk_alloc ?_ _)); refine blk_far ?_ NB346_350.out _; (with_reducible repeat (first | refine blk_drewN ?_ _ | refine blk_drew ?_ | refine blk_alloc ?_ _)); exact BK346.out⟩, ⟨by (with_reducible repeat (first | refine blk_drewN ?_ _ | refine blk_drew ?_ | refine blk_alloc ?_ _)); refine blk_put (cs := #[.int .i64 t347, .int .i64 0, .int .i64 0, .int .i64 0, .int .i64 0, .string (⟨#[]⟩ : ByteArray)]) ?_ 5 _ rfl; (with_reducible repeat (first | refine blk_drewN ?_ _ | refine blk_drew ?_ | refine blk_alloc ?_ _)); refine blk_put (cs := #[.int .i64 t347, .int .i64 0, .int .i64 0, .int .i64 0, .int .i64 0, .string (⟨#[]⟩ : ByteArray)]) ?_ 4 _ rfl; (with_reducible repeat (first | refine blk_drewN ?_ _ | refine blk_drew ?_ | refine blk_alloc ?_ _)); refine blk_put (cs := #[.int .i64 t347, .int .i64 0, .int .i64 0, .int .i64 0, .int .i64 0, .string (⟨#[]⟩ : ByteArray)]) ?_ 3 _ rfl; (with_reducible repeat (first | refine blk_drewN ?_ _ | refine blk_drew ?_ | refine blk_alloc ?_ _)); refine blk_put (cs := #[.int .i64 t347, .int .i64 0, .int .i64 0, .int .i64 0, .int .i64 0, .string (⟨#[]⟩ : ByteArray)]) ?_ 2 _ rfl; (with_reducible repeat (first | refine blk_drewN ?_ _ | refine blk_drew ?_ | refine blk_alloc ?_ _)); refine blk_put (cs := #[.int .i64 t347, .int .i64 0, .int .i64 0, .int .i64 0, .int .i64 0, .string (⟨#[]⟩ : ByteArray)]) ?_ 1 _ rfl; (with_reducible repeat (first | refine blk_drewN ?_ _ | refine blk_drew ?_ | refine blk_alloc ?_ _)); refine blk_put (cs := #[.int .i64 0, .int .i64 0, .int .i64 0, .int .i64 0, .int .i64 0, .string (⟨#[]⟩ : ByteArray)]) ?_ 0 _ rfl; (with_reducible repeat (first | refine blk_drewN ?_ _ | refine blk_drew ?_ | refine blk_alloc ?_ _)); exact BK350.out⟩, ⟨by repeat (first | (with_reducible first | exact HB.out | apply below_alloc | apply pw_below_drewN | apply below_drew1 | refine below_set ?_ GE346.out | refine below_set ?_ GE350.out) | exact HB.out)⟩⟩
                · rw [if_neg c25] at H
                  have c25b0 : ((wrap64 (bt a0 t348)) == 247) = false := beq_eq_false_iff_ne.mpr c25
                  have c25b1 : ((wrap64 (bt a0 t348)) != 247) = true := bne_iff_ne.mpr c25
                  have H' := Aside0.mk H
                  clear H
                  go_wp2
                  go_meet
                  case rel => exact ⟨_, (((wrap64 (bt a0 t348)) != 255)), (by first | rfl | (simp; done) | (simp [*]; done)), H', ⟨by first | omega | exact Nat.le_refl _⟩, ⟨by (with_reducible repeat (first | refine blk_drewN ?_ _ | refine blk_drew ?_ | refine blk_alloc ?_ _)); refine blk_far ?_ NB346_350.out _; (with_reducible repeat (first | refine blk_drewN ?_ _ | refine blk_drew ?_ | refine blk_alloc ?_ _)); refine blk_far ?_ NB346_350.out _; (with_reducible repeat (first | refine blk_drewN ?_ _ | refine blk_drew ?_ | refine blk_alloc ?_ _)); refine blk_far ?_ NB346_350.out _; (with_reducible repeat (first | refine blk_drewN ?_ _ | refine blk_drew ?_ | refine blk_alloc ?_ _)); refine blk_far ?_ NB346_350.out _; (with_reducible repeat (first | refine blk_drewN ?_ _ | refine blk_drew ?_ | refine blk_alloc ?_ _)); refine blk_far ?_ NB346_350.out _; (with_reducible repeat (first | refine blk_drewN ?_ _ | refine blk_drew ?_ | refine blk_alloc ?_ _)); refine blk_far ?_ NB346_350.out _; (with_reducible repeat (first | refine blk_drewN ?_ _ | refine blk_drew ?_ | refine blk_alloc ?_ _)); exact BK346.out⟩, ⟨by (with_reducible repeat (first | refine blk_drewN ?_ _ | refine blk_drew ?_ | refine blk_alloc ?_ _)); refine blk_put (cs := #[.int .i64 t347, .int .i64 0, .int .i64 0, .int .i64 0, .int .i64 0, .string (⟨#[]⟩ : ByteArray)]) ?_ 5 _ rfl; (with_reducible repeat (first | refine blk_drewN ?_ _ | refine blk_drew ?_ | refine blk_alloc ?_ _)); refine blk_put (cs := #[.int .i64 t347, .int .i64 0, .int .i64 0, .int .i64 0, .int .i64 0, .string (⟨#[]⟩ : ByteArray)]) ?_ 4 _ rfl; (with_reducible repeat (first | refine blk_drewN ?_ _ | refine blk_drew ?_ | refine blk_alloc ?_ _)); refine blk_put (cs := #[.int .i64 t347, .int .i64 0, .int .i64 0, .int .i64 0, .int .i64 0, .string (⟨#[]⟩ : ByteArray)]) ?_ 3 _ rfl; (with_reducible repeat (first | refine blk_drewN ?_ _ | refine blk_drew ?_ | refine blk_alloc ?_ _)); refine blk_put (cs := #[.int .i64 t347, .int .i64 0, .int .i64 0, .int .i64 0, .int .i64 0, .string (⟨#[]⟩ : ByteArray)]) ?_ 2 _ rfl; (with_reducible repeat (first | refine blk_drewN ?_ _ | refine blk_drew ?_ | refine blk_alloc ?_ _)); refine blk_put (cs := #[.int .i64 t347, .int .i64 0, .int .i64 0, .int .i64 0, .int .i64 0, .string (⟨#[]⟩ : ByteArray)]) ?_ 1 _ rfl; (with_reducible repeat (first | refine blk_drewN ?_ _ | refine blk_drew ?_ | refine blk_alloc ?_ _)); refine blk_put (cs := #[.int .i64 0, .int .i64 0, .int .i64 0, .int .i64 0, .int .i64 0, .string (⟨#[]⟩ : ByteArray)]) ?_ 0 _ rfl; (with_reducible repeat (first | refine blk_drewN ?_ _ | refine blk_drew ?_ | refine blk_alloc ?_ _)); exact BK350.out⟩, ⟨by repeat (first | (with_reducible first | exact HB.out | apply below_alloc | apply pw_below_drewN | apply below_drew1 | refine below_set ?_ GE346.out | refine below_set ?_ GE350.out) | exact HB.out)⟩⟩
              · rw [if_neg c24] at H
                have c24b0 : decide (240 < (wrap64 (bt a0 t348))) = false := decide_eq_false c24
                clear c24
                have H' := Aside0.mk H
                clear H
                go_wp2
                go_meet
                case rel => exact ⟨_, (false), (by first | rfl | (simp; done) | (simp [*]; done)), H', ⟨by first | omega | exact Nat.le_refl _⟩, ⟨by (with_reducible repeat (first | refine blk_drewN ?_ _ | refine blk_drew ?_ | refine blk_alloc ?_ _)); refine blk_far ?_ NB346_350.out _; (with_reducible repeat (first | refine blk_drewN ?_ _ | refine blk_drew ?_ | refine blk_alloc ?_ _)); refine blk_far ?_ NB346_350.out _; (with_reducible repeat (first | refine blk_drewN ?_ _ | refine blk_drew ?_ | refine blk_alloc ?_ _)); refine blk_far ?_ NB346_350.out _; (with_reducible repeat (first | refine blk_drewN ?_ _ | refine blk_drew ?_ | refine blk_alloc ?_ _)); refine blk_far ?_ NB346_350.out _; (with_reducible repeat (first | refine blk_drewN ?_ _ | refine blk_drew ?_ | refine blk_alloc ?_ _)); refine blk_far ?_ NB346_350.out _; (with_reducible repeat (first | refine blk_drewN ?_ _ | refine blk_drew ?_ | refine blk_alloc ?_ _)); refine blk_far ?_ NB346_350.out _; (with_reducible repeat (first | refine blk_drewN ?_ _ | refine blk_drew ?_ | refine blk_alloc ?_ _)); exact BK346.out⟩, ⟨by (with_reducible repeat (first | refine blk_drewN ?_ _ | refine blk_drew ?_ | refine blk_alloc ?_ _)); refine blk_put (cs := #[.int .i64 t347, .int .i64 0, .int .i64 0, .int .i64 0, .int .i64 0, .string (⟨#[]⟩ : ByteArray)]) ?_ 5 _ rfl; (with_reducible repeat (first | refine blk_drewN ?_ _ | refine blk_drew ?_ | refine blk_alloc ?_ _)); refine blk_put (cs := #[.int .i64 t347, .int .i64 0, .int .i64 0, .int .i64 0, .int .i64 0, .string (⟨#[]⟩ : ByteArray)]) ?_ 4 _ rfl; (with_reducible repeat (first | refine blk_drewN ?_ _ | refine blk_drew ?_ | refine blk_alloc ?_ _)); refine blk_put (cs := #[.int .i64 t347, .int .i64 0, .int .i64 0, .int .i64 0, .int .i64 0, .string (⟨#[]⟩ : ByteArray)]) ?_ 3 _ rfl; (with_reducible repeat (first | refine blk_drewN ?_ _ | refine blk_drew ?_ | refine blk_alloc ?_ _)); refine blk_put (cs := #[.int .i64 t347, .int .i64 0, .int .i64 0, .int .i64 0, .int .i64 0, .string (⟨#[]⟩ : ByteArray)]) ?_ 2 _ rfl; (with_reducible repeat (first | refine blk_drewN ?_ _ | refine blk_drew ?_ | refine blk_alloc ?_ _)); refine blk_put (cs := #[.int .i64 t347, .int .i64 0, .int .i64 0, .int .i64 0, .int .i64 0, .string (⟨#[]⟩ : ByteArray)]) ?_ 1 _ rfl; (with_reducible repeat (first | refine blk_drewN ?_ _ | refine blk_drew ?_ | refine blk_alloc ?_ _)); refine blk_put (cs := #[.int .i64 0, .int .i64 0, .int .i64 0, .int .i64 0, .int .i64 0, .string (⟨#[]⟩ : ByteArray)]) ?_ 0 _ rfl; (with_reducible repeat (first | refine blk_drewN ?_ _ | refine blk_drew ?_ | refine blk_alloc ?_ _)); exact BK350.out⟩, ⟨by repeat (first | (with_reducible first | exact HB.out | apply below_alloc | apply pw_below_drewN | apply below_drew1 | refine below_set ?_ GE346.out | refine below_set ?_ GE350.out) | exact HB.out)⟩⟩
          case rest =>
            clear HC15
            try clear c1
            try clear p1
            try clear q1
            try clear hx1
            try clear c2
            try clear p2
            try clear c3
            try clear c5
            try clear c5b0
            try clear c5b1
            try clear c6
            try clear c6b0
            try clear c6b1
            try clear p6
            try clear c9
            try clear c12
            try clear c12b0
            try clear c13
            try clear c13b0
            try clear p14
            try clear q14
            try clear hx14
            try clear c18
            try clear c20
            try clear c20b0
            try clear c21
            try clear c21b0
            try clear c21b1
            try clear c22
            try clear c22b0
            try clear c23
            try clear c23b0
            try clear c23b1
            try clear c24
            try clear c24b0
            try clear c25
            try clear c25b0
            try clear c25b1
            try clear hcz10_0
            try clear hcz10_1
            try clear hcz10_2
            try clear hcz10_3
            try clear hcz10_4
            try clear hcz10_5
            try clear hcz11_0
            try clear hcz11_1
            try clear hcz11_2
            try clear hcz11_3
            try clear hcz11_4
            try clear hcz11_5
            try clear hcz19_0
            try clear hcz19_1
            try clear hcz19_2
            try clear hcz19_3
            try clear hcz19_4
            try clear hcz19_5
            try clear hfz10_0
            try clear hfz10_1
            try clear hfz10_2
            try clear hfz10_3
            try clear hfz10_4
            try clear hfz10_5
            try clear hfz11_0
            try clear hfz11_1
            try clear hfz11_2
            try clear hfz11_3
            try clear hfz11_4
            try clear hfz11_5
            try clear hfz19_0
            try clear hfz19_1
            try clear hfz19_2
            try clear hfz19_3
            try clear hfz19_4
            try clear hfz19_5
            try clear p14
            try clear q14
            obtain ⟨kq, x60_14, rfl, HA, HJ14, BK346, BK350, HB⟩ := hcut
            cases kq with
            | zero => exact absurd HA.out (by simp [partitaref15_read.j0])
            | succ kj14 =>
              have H := HA.out
              clear HA
              simp only [partitaref15_read.j0] at H
              by_cases c26 : x60_14 = true
              · subst c26
                have H1 : (some (t347, 0, 0, 0, 0, (⟨#[]⟩ : ByteArray), 0, 0, 151)) = some (r1, r2, r3, r4, r5, r6, r7, r8, r9) := by rw [if_pos rfl] at H; exact H
                clear H
                have H := H1
                clear H1
                simp only [Option.some.injEq, Prod.mk.injEq] at H
                obtain ⟨rfl, rfl, rfl, rfl, rfl, rfl, rfl, rfl, rfl⟩ := H
                have hnb27 := NB350_346.out
                have hnc27 := NB346_350.out
                have hcz28_0 : wc.cell? ⟨gb350, 0, none⟩ = some (.int .i64 t347) := (blk_cell BK350.out 0).trans rfl
                have hcz28_1 : wc.cell? ⟨gb350, 1, none⟩ = some (.int .i64 0) := (blk_cell BK350.out 1).trans rfl
                have hcz28_2 : wc.cell? ⟨gb350, 2, none⟩ = some (.int .i64 0) := (blk_cell BK350.out 2).trans rfl
                have hcz28_3 : wc.cell? ⟨gb350, 3, none⟩ = some (.int .i64 0) := (blk_cell BK350.out 3).trans rfl
                have hcz28_4 : wc.cell? ⟨gb350, 4, none⟩ = some (.int .i64 0) := (blk_cell BK350.out 4).trans rfl
                have hcz28_5 : wc.cell? ⟨gb350, 5, none⟩ = some (.string (⟨#[]⟩ : ByteArray)) := (blk_cell BK350.out 5).trans rfl
                have hfz28_0 := blk_frozen BK350.out 0
                have hfz28_1 := blk_frozen BK350.out 1
                have hfz28_2 := blk_frozen BK350.out 2
                have hfz28_3 := blk_frozen BK350.out 3
                have hfz28_4 := blk_frozen BK350.out 4
                have hfz28_5 := blk_frozen BK350.out 5
                have hcz29_0 : wc.cell? ⟨gb346, 0, none⟩ = some (.int .i64 0) := (blk_cell BK346.out 0).trans rfl
                have hcz29_1 : wc.cell? ⟨gb346, 1, none⟩ = some (.int .i64 0) := (blk_cell BK346.out 1).trans rfl
                have hcz29_2 : wc.cell? ⟨gb346, 2, none⟩ = some (.int .i64 0) := (blk_cell BK346.out 2).trans rfl
                have hcz29_3 : wc.cell? ⟨gb346, 3, none⟩ = some (.int .i64 0) := (blk_cell BK346.out 3).trans rfl
                have hcz29_4 : wc.cell? ⟨gb346, 4, none⟩ = some (.int .i64 0) := (blk_cell BK346.out 4).trans rfl
                have hcz29_5 : wc.cell? ⟨gb346, 5, none⟩ = some (.string (⟨#[]⟩ : ByteArray)) := (blk_cell BK346.out 5).trans rfl
                have hfz29_0 := blk_frozen BK346.out 0
                have hfz29_1 := blk_frozen BK346.out 1
                have hfz29_2 := blk_frozen BK346.out 2
                have hfz29_3 := blk_frozen BK346.out 3
                have hfz29_4 := blk_frozen BK346.out 4
                have hfz29_5 := blk_frozen BK346.out 5
                go_wp2
                refine bodyPost_ret (results_list (rs := [.cell 6 31, .tmp 7, .tmp 8, .tmp 9]) rfl (by simp) (.cell gb346 31 #[.int .i64 t347, .int .i64 0, .int .i64 0, .int .i64 0, .int .i64 0, .string (⟨#[]⟩ : ByteArray)] (0, 0) _ rfl (by (with_reducible repeat (first | refine blk_drewN ?_ _ | refine blk_drew ?_ | refine blk_alloc ?_ _)); refine blk_put (cs := #[.int .i64 t347, .int .i64 0, .int .i64 0, .int .i64 0, .int .i64 0, .string (⟨#[]⟩ : ByteArray)]) ?_ 5 _ rfl; (with_reducible repeat (first | refine blk_drewN ?_ _ | refine blk_drew ?_ | refine blk_alloc ?_ _)); refine blk_put (cs := #[.int .i64 t347, .int .i64 0, .int .i64 0, .int .i64 0, .int .i64 0, .string (⟨#[]⟩ : ByteArray)]) ?_ 4 _ rfl; (with_reducible repeat (first | refine blk_drewN ?_ _ | refine blk_drew ?_ | refine blk_alloc ?_ _)); refine blk_put (cs := #[.int .i64 t347, .int .i64 0, .int .i64 0, .int .i64 0, .int .i64 0, .string (⟨#[]⟩ : ByteArray)]) ?_ 3 _ rfl; (with_reducible repeat (first | refine blk_drewN ?_ _ | refine blk_drew ?_ | refine blk_alloc ?_ _)); refine blk_put (cs := #[.int .i64 t347, .int .i64 0, .int .i64 0, .int .i64 0, .int .i64 0, .string (⟨#[]⟩ : ByteArray)]) ?_ 2 _ rfl; (with_reducible repeat (first | refine blk_drewN ?_ _ | refine blk_drew ?_ | refine blk_alloc ?_ _)); refine blk_put (cs := #[.int .i64 t347, .int .i64 0, .int .i64 0, .int .i64 0, .int .i64 0, .string (⟨#[]⟩ : ByteArray)]) ?_ 1 _ rfl; (with_reducible repeat (first | refine blk_drewN ?_ _ | refine blk_drew ?_ | refine blk_alloc ?_ _)); refine blk_put (cs := #[.int .i64 0, .int .i64 0, .int .i64 0, .int .i64 0, .int .i64 0, .string (⟨#[]⟩ : ByteArray)]) ?_ 0 _ rfl; (with_reducible repeat (first | refine blk_drewN ?_ _ | refine blk_drew ?_ | refine blk_alloc ?_ _)); exact BK346.out) Try.underlying31 rfl (by kernel_rfl) (.tmp (.tmp (.tmp .nil))))) rfl ?_
                exact ⟨by first | rfl | (simp [errW_none, errW_some] <;> rfl) | (simp [*, errW_none, errW_some] <;> rfl), by repeat (first | (with_reducible first | exact HB.out | apply below_alloc | apply pw_below_drewN | apply below_drew1 | refine below_set ?_ GE346.out | refine below_set ?_ GE350.out) | exact HB.out)⟩
              · replace c26 := Bool.eq_false_iff.mpr c26
                subst c26
                have H1 : (if (wrap64 (bt a0 t348)) < 128 then (partitaref15_read.j1 kj14 a0 t348 a2 t347 0 0 0 0 (⟨#[]⟩ : ByteArray)) else (partitaref15_read.j1 kj14 a0 (wrap64 (t348 + 1)) (wrap64 (bt a0 t348)) t347 0 0 0 0 (⟨#[]⟩ : ByteArray))) = some (r1, r2, r3, r4, r5, r6, r7, r8, r9) := by rw [if_neg (show ¬ (false = true) by decide)] at H; exact H
                clear H
                have H := H1
                clear H1
                have HC30 := Aside0.mk H
                clear H
                go_upto_if 63 with (fail)
                go_cut [11, 14] (fun v11 v14 wc => ∃ (kq : Nat) (x11_29 : Int) (x14_29 : Int), v11 = .int .i64 x11_29 ∧ v14 = .int .i64 x14_29 ∧ Aside0 (partitaref15_read.j1 kq a0 x11_29 x14_29 t347 0 0 0 0 (⟨#[]⟩ : ByteArray) = some (r1, r2, r3, r4, r5, r6, r7, r8, r9)) ∧ Aside0 (kq ≤ kj14) ∧ Aside0 (wc.heap[gb346]? = some (.cells #[.int .i64 0, .int .i64 0, .int .i64 0, .int .i64 0, .int .i64 0, .string (⟨#[]⟩ : ByteArray)] 31 (0, 0))) ∧ Aside0 (wc.heap[gb350]? = some (.cells #[.int .i64 t347, .int .i64 0, .int .i64 0, .int .i64 0, .int .i64 0, .string (⟨#[]⟩ : ByteArray)] 31 (0, 0))) ∧ Aside0 (Below w.heap.size w wc))
                case first =>
                  have H := HC30.out
                  clear HC30
                  by_cases c31 : (wrap64 (bt a0 t348)) < 128
                  · rw [if_pos c31] at H
                    have c31b0 : decide ((wrap64 (bt a0 t348)) < 128) = true := decide_eq_true c31
                    clear c31
                    (first | rw [c31b0] | (simp only [i64_w, i32_w]; rw [c31b0]) | skip)
                    have H' := Aside0.mk H
                    clear H
                    go_wp2
                    go_meet
                    case rel => exact ⟨_, (t348), (a2), (by first | rfl | (simp; done) | (simp [*]; done)), (by first | rfl | (simp; done) | (simp [*]; done)), H', ⟨by have := HJ14.out; first | omega | exact Nat.le_refl _⟩, ⟨by (with_reducible repeat (first | refine blk_drewN ?_ _ | refine blk_drew ?_ | refine blk_alloc ?_ _)); exact BK346.out⟩, ⟨by (with_reducible repeat (first | refine blk_drewN ?_ _ | refine blk_drew ?_ | refine blk_alloc ?_ _)); exact BK350.out⟩, ⟨by repeat (first | (with_reducible first | exact HB.out | apply below_alloc | apply pw_below_drewN | apply below_drew1 | refine below_set ?_ GE346.out | refine below_set ?_ GE350.out) | exact HB.out)⟩⟩
                  · rw [if_neg c31] at H
                    have c31b0 : decide ((wrap64 (bt a0 t348)) < 128) = false := decide_eq_false c31
                    clear c31
                    (first | rw [c31b0] | (simp only [i64_w, i32_w]; rw [c31b0]) | skip)
                    have H' := Aside0.mk H
                    clear H
                    go_wp2
                    go_meet
                    case rel => exact ⟨_, (wrap64 (t348 + 1)), ((wrap64 (bt a0 t348))), (by first | rfl | (simp; done) | (simp [*]; done)), (by first | rfl | (simp; done) | (simp [*]; done)), H', ⟨by have := HJ14.out; first | omega | exact Nat.le_refl _⟩, ⟨by (with_reducible repeat (first | refine blk_drewN ?_ _ | refine blk_drew ?_ | refine blk_alloc ?_ _)); exact BK346.out⟩, ⟨by (with_reducible repeat (first | refine blk_drewN ?_ _ | refine blk_drew ?_ | refine blk_alloc ?_ _)); exact BK350.out⟩, ⟨by repeat (first | (with_reducible first | exact HB.out | apply below_alloc | apply pw_below_drewN | apply below_drew1 | refine below_set ?_ GE346.out | refine below_set ?_ GE350.out) | exact HB.out)⟩⟩
                case rest =>
                  clear HC30
                  try clear c1
                  try clear p1
                  try clear q1
                  try clear hx1
                  try clear c2
                  try clear p2
                  try clear c3
                  try clear c5
                  try clear c5b0
                  try clear c5b1
                  try clear c6
                  try clear c6b0
                  try clear c6b1
                  try clear p6
                  try clear c9
                  try clear c12
                  try clear c12b0
                  try clear c13
                  try clear c13b0
                  try clear p14
                  try clear q14
                  try clear hx14
                  try clear c18
                  try clear c20
                  try clear c20b0
                  try clear c21
                  try clear c21b0
                  try clear c21b1
                  try clear c22
                  try clear c22b0
                  try clear c23
                  try clear c23b0
                  try clear c23b1
                  try clear c24
                  try clear c24b0
                  try clear c25
                  try clear c25b0
                  try clear c25b1
                  try clear c26
                  try clear c27
                  try clear c31
                  try clear c31b0
                  try clear hcz10_0
                  try clear hcz10_1
                  try clear hcz10_2
                  try clear hcz10_3
                  try clear hcz10_4
                  try clear hcz10_5
                  try clear hcz11_0
                  try clear hcz11_1
                  try clear hcz11_2
                  try clear hcz11_3
                  try clear hcz11_4
                  try clear hcz11_5
                  try clear hcz19_0
                  try clear hcz19_1
                  try clear hcz19_2
                  try clear hcz19_3
                  try clear hcz19_4
                  try clear hcz19_5
                  try clear hcz28_0
                  try clear hcz28_1
                  try clear hcz28_2
                  try clear hcz28_3
                  try clear hcz28_4
                  try clear hcz28_5
                  try clear hcz29_0
                  try clear hcz29_1
                  try clear hcz29_2
                  try clear hcz29_3
                  try clear hcz29_4
                  try clear hcz29_5
                  try clear hfz10_0
                  try clear hfz10_1
                  try clear hfz10_2
                  try clear hfz10_3
                  try clear hfz10_4
                  try clear hfz10_5
                  try clear hfz11_0
                  try clear hfz11_1
                  try clear hfz11_2
                  try clear hfz11_3
                  try clear hfz11_4
                  try clear hfz11_5
                  try clear hfz19_0
                  try clear hfz19_1
                  try clear hfz19_2
                  try clear hfz19_3
                  try clear hfz19_4
                  try clear hfz19_5
                  try clear hfz28_0
                  try clear hfz28_1
                  try clear hfz28_2
                  try clear hfz28_3
                  try clear hfz28_4
                  try clear hfz28_5
                  try clear hfz29_0
                  try clear hfz29_1
                  try clear hfz29_2
                  try clear hfz29_3
                  try clear hfz29_4
                  try clear hfz29_5
                  try clear p1
                  try clear p14
                  try clear p2
                  try clear p6
                  try clear q1
                  try clear q14
                  obtain ⟨kq, x11_29, x14_29, rfl, rfl, HA, HJ29, BK346, BK350, HB⟩ := hcut
                  cases kq with
                  | zero => exact absurd HA.out (by simp [partitaref15_read.j1])
                  | succ kj29 =>
                    have H := HA.out
                    clear HA
                    simp only [partitaref15_read.j1] at H
                    by_cases c32 : x14_29 < 240
                    · rw [if_pos c32] at H
                      have c32b0 : decide (x14_29 < 240) = true := decide_eq_true c32
                      clear c32
                      replace H := Option.bind_eq_some_iff.mp H
                      obtain ⟨⟨t351, t352, t353, t354, t355, t356, t357, t358⟩, A330, H⟩ := H
                      replace H : (some (t351, t352, t353, t354, t355, t356, x14_29, t357, t358)) = some (r1, r2, r3, r4, r5, r6, r7, r8, r9) := H
                      have A33 := Aside0.mk A330
                      clear A330
                      simp only [Option.some.injEq, Prod.mk.injEq] at H
                      obtain ⟨rfl, rfl, rfl, rfl, rfl, rfl, rfl, rfl, rfl⟩ := H
                      have hnb34 := NB350_346.out
                      have hnc34 := NB346_350.out
                      have hcz35_0 : wc.cell? ⟨gb350, 0, none⟩ = some (.int .i64 t347) := (blk_cell BK350.out 0).trans rfl
                      have hcz35_1 : wc.cell? ⟨gb350, 1, none⟩ = some (.int .i64 0) := (blk_cell BK350.out 1).trans rfl
                      have hcz35_2 : wc.cell? ⟨gb350, 2, none⟩ = some (.int .i64 0) := (blk_cell BK350.out 2).trans rfl
                      have hcz35_3 : wc.cell? ⟨gb350, 3, none⟩ = some (.int .i64 0) := (blk_cell BK350.out 3).trans rfl
                      have hcz35_4 : wc.cell? ⟨gb350, 4, none⟩ = some (.int .i64 0) := (blk_cell BK350.out 4).trans rfl
                      have hcz35_5 : wc.cell? ⟨gb350, 5, none⟩ = some (.string (⟨#[]⟩ : ByteArray)) := (blk_cell BK350.out 5).trans rfl
                      have hfz35_0 := blk_frozen BK350.out 0
                      have hfz35_1 := blk_frozen BK350.out 1
                      have hfz35_2 := blk_frozen BK350.out 2
                      have hfz35_3 := blk_frozen BK350.out 3
                      have hfz35_4 := blk_frozen BK350.out 4
                      have hfz35_5 := blk_frozen BK350.out 5
                      go_wp2_with (first | ((with_reducible refine gate_callee (f := 39) rfl ?_); refine goesL_ (some 79) rfl rfl Try.func39 (by kernel_rfl) rfl #[.string a0, .int .i64 x11_29, .agg #[.int .i64 t347, .int .i64 (wrap64 (Int.tdiv x14_29 16)), .int .i64 (Int.tmod x14_29 16), .int .i64 0, .int .i64 0, .string (⟨#[]⟩ : ByteArray)]] rfl (by (try simp only [List.map_toArray, List.map_cons, List.map_nil]); first | done | rfl | (simp only [List.length_drop, List.length_take]; rfl)) ?_; (with_reducible refine (partitaref15_short.calls a0 x11_29 t347 (wrap64 (Int.tdiv x14_29 16)) (Int.tmod x14_29 16) 0 0 (⟨#[]⟩ : ByteArray) t351 t352 t353 t354 t355 t356 t357 t358 _ A33.out).mono ?_); rintro e w36 ⟨rfl, hb⟩; refine ⟨_, rfl, ?_⟩; have n0_ := Aside0.mk (blk_below (g := gb346) (o := .cells #[.int .i64 0, .int .i64 0, .int .i64 0, .int .i64 0, .int .i64 0, .string (⟨#[]⟩ : ByteArray)] 31 (0, 0)) (by (with_reducible repeat (first | refine blk_drewN ?_ _ | refine blk_drew ?_ | refine blk_alloc ?_ _)); refine blk_far ?_ NB346_350.out _; (with_reducible repeat (first | refine blk_drewN ?_ _ | refine blk_drew ?_ | refine blk_alloc ?_ _)); refine blk_far ?_ NB346_350.out _; (with_reducible repeat (first | refine blk_drewN ?_ _ | refine blk_drew ?_ | refine blk_alloc ?_ _)); exact BK346.out) hb); have n1_ := Aside0.mk (blk_below (g := gb350) (o := .cells #[.int .i64 t347, .int .i64 (wrap64 (Int.tdiv x14_29 16)), .int .i64 (Int.tmod x14_29 16), .int .i64 0, .int .i64 0, .string (⟨#[]⟩ : ByteArray)] 31 (0, 0)) (by (with_reducible repeat (first | refine blk_drewN ?_ _ | refine blk_drew ?_ | refine blk_alloc ?_ _)); refine blk_put (cs := #[.int .i64 t347, .int .i64 (wrap64 (Int.tdiv x14_29 16)), .int .i64 0, .int .i64 0, .int .i64 0, .string (⟨#[]⟩ : ByteArray)]) ?_ 2 _ rfl; (with_reducible repeat (first | refine blk_drewN ?_ _ | refine blk_drew ?_ | refine blk_alloc ?_ _)); refine blk_put (cs := #[.int .i64 t347, .int .i64 0, .int .i64 0, .int .i64 0, .int .i64 0, .string (⟨#[]⟩ : ByteArray)]) ?_ 1 _ rfl; (with_reducible repeat (first | refine blk_drewN ?_ _ | refine blk_drew ?_ | refine blk_alloc ?_ _)); exact BK350.out) hb); have n2_ := Aside0.mk (below_step (by repeat (first | (with_reducible first | exact HB.out | apply below_alloc | apply pw_below_drewN | apply below_drew1 | refine below_set ?_ GE346.out | refine below_set ?_ GE350.out) | exact HB.out)) hb); clear BK346; clear BK350; clear HB; have BK346 := n0_; have BK350 := n1_; have HB := n2_; clear n0_ n1_ n2_; (try clear hb); (try clear hb2); (try clear hk); (try clear hi)) | ((with_reducible refine gate_dst (N := 15) rfl ?_); refine box_event ?hg (N := 15) ?hd (cs := #[.int .i64 0, .int .i64 0, .int .i64 0, .int .i64 0, .int .i64 0, .string (⟨#[]⟩ : ByteArray)]) (t := 31) ?hr ?_; (case hd => rfl); (case hg => rfl); (case hr => first | (go_simp; done) | (go_simp; rfl)); intro gb359 hg w37 hbox hb; have n0_ := Aside0.mk (blk_below (g := gb346) (o := .cells #[.int .i64 0, .int .i64 0, .int .i64 0, .int .i64 0, .int .i64 0, .string (⟨#[]⟩ : ByteArray)] 31 (0, 0)) (by (with_reducible repeat (first | refine blk_drewN ?_ _ | refine blk_drew ?_ | refine blk_alloc ?_ _)); exact BK346.out) hb); have n1_ := Aside0.mk (blk_below (g := gb350) (o := .cells #[.int .i64 t347, .int .i64 (wrap64 (Int.tdiv x14_29 16)), .int .i64 (Int.tmod x14_29 16), .int .i64 0, .int .i64 0, .string (⟨#[]⟩ : ByteArray)] 31 (0, 0)) (by (with_reducible repeat (first | refine blk_drewN ?_ _ | refine blk_drew ?_ | refine blk_alloc ?_ _)); exact BK350.out) hb); have n2_ := Aside0.mk (below_step (by repeat (first | (with_reducible first | exact HB.out | apply below_alloc | apply pw_below_drewN | apply below_drew1 | refine below_set ?_ GE346.out | refine below_set ?_ GE350.out) | exact HB.out)) hb); have n3_ := Aside0.mk (hbox); have n4_ := Aside0.mk ((by rw [hg]; exact (below_size (by repeat (first | (with_reducible first | exact HB.out | apply below_alloc | apply pw_below_drewN | apply below_drew1 | refine below_set ?_ GE346.out | refine below_set ?_ GE350.out) | exact HB.out))) : w.heap.size ≤ gb359)); have n5_ := Aside0.mk ((by rw [hg]; exact (below_size (by repeat (first | (with_reducible first | exact HB.out | apply below_alloc | apply pw_below_drewN | apply below_drew1 | refine below_set ?_ GE346.out | refine below_set ?_ GE350.out) | exact HB.out))) : w.heap.size ≤ gb359)); have n6_ := Aside0.mk ((by rw [hg]; exact Nat.ne_of_lt (blk_lt (g := gb346) (o := .cells #[.int .i64 0, .int .i64 0, .int .i64 0, .int .i64 0, .int .i64 0, .string (⟨#[]⟩ : ByteArray)] 31 (0, 0)) (by (with_reducible repeat (first | refine blk_drewN ?_ _ | refine blk_drew ?_ | refine blk_alloc ?_ _)); exact BK346.out)) : gb346 ≠ gb359)); have n7_ := Aside0.mk ((by rw [hg]; exact Nat.ne_of_gt (blk_lt (g := gb346) (o := .cells #[.int .i64 0, .int .i64 0, .int .i64 0, .int .i64 0, .int .i64 0, .string (⟨#[]⟩ : ByteArray)] 31 (0, 0)) (by (with_reducible repeat (first | refine blk_drewN ?_ _ | refine blk_drew ?_ | refine blk_alloc ?_ _)); exact BK346.out)) : gb359 ≠ gb346)); have n8_ := Aside0.mk ((by rw [hg]; exact Nat.ne_of_lt (blk_lt (g := gb350) (o := .cells #[.int .i64 t347, .int .i64 (wrap64 (Int.tdiv x14_29 16)), .int .i64 (Int.tmod x14_29 16), .int .i64 0, .int .i64 0, .string (⟨#[]⟩ : ByteArray)] 31 (0, 0)) (by (with_reducible repeat (first | refine blk_drewN ?_ _ | refine blk_drew ?_ | refine blk_alloc ?_ _)); exact BK350.out)) : gb350 ≠ gb359)); have n9_ := Aside0.mk ((by rw [hg]; exact Nat.ne_of_gt (blk_lt (g := gb350) (o := .cells #[.int .i64 t347, .int .i64 (wrap64 (Int.tdiv x14_29 16)), .int .i64 (Int.tmod x14_29 16), .int .i64 0, .int .i64 0, .string (⟨#[]⟩ : ByteArray)] 31 (0, 0)) (by (with_reducible repeat (first | refine blk_drewN ?_ _ | refine blk_drew ?_ | refine blk_alloc ?_ _)); exact BK350.out)) : gb359 ≠ gb350)); clear BK346; clear BK350; clear HB; have BK346 := n0_; have BK350 := n1_; have HB := n2_; have BK359 := n3_; have GW359 := n4_; have GE359 := n5_; have NB346_359 := n6_; have NB359_346 := n7_; have NB350_359 := n8_; have NB359_350 := n9_; clear n0_ n1_ n2_ n3_ n4_ n5_ n6_ n7_ n8_ n9_; clear hb hbox hg; have hnb38 := NB359_346.out; have hnc38 := NB346_359.out; have hnb39 := NB359_350.out; have hnc39 := NB350_359.out; have hcz40_0 : w37.cell? ⟨gb359, 0, none⟩ = some (.int .i64 0) := (blk_cell BK359.out 0).trans rfl; have hcz40_1 : w37.cell? ⟨gb359, 1, none⟩ = some (.int .i64 0) := (blk_cell BK359.out 1).trans rfl; have hcz40_2 : w37.cell? ⟨gb359, 2, none⟩ = some (.int .i64 0) := (blk_cell BK359.out 2).trans rfl; have hcz40_3 : w37.cell? ⟨gb359, 3, none⟩ = some (.int .i64 0) := (blk_cell BK359.out 3).trans rfl; have hcz40_4 : w37.cell? ⟨gb359, 4, none⟩ = some (.int .i64 0) := (blk_cell BK359.out 4).trans rfl; have hcz40_5 : w37.cell? ⟨gb359, 5, none⟩ = some (.string (⟨#[]⟩ : ByteArray)) := (blk_cell BK359.out 5).trans rfl; have hfz40_0 := blk_frozen BK359.out 0; have hfz40_1 := blk_frozen BK359.out 1; have hfz40_2 := blk_frozen BK359.out 2; have hfz40_3 := blk_frozen BK359.out 3; have hfz40_4 := blk_frozen BK359.out 4; have hfz40_5 := blk_frozen BK359.out 5; have hcz41_0 : w37.cell? ⟨gb346, 0, none⟩ = some (.int .i64 0) := (blk_cell BK346.out 0).trans rfl; have hcz41_1 : w37.cell? ⟨gb346, 1, none⟩ = some (.int .i64 0) := (blk_cell BK346.out 1).trans rfl; have hcz41_2 : w37.cell? ⟨gb346, 2, none⟩ = some (.int .i64 0) := (blk_cell BK346.out 2).trans rfl; have hcz41_3 : w37.cell? ⟨gb346, 3, none⟩ = some (.int .i64 0) := (blk_cell BK346.out 3).trans rfl; have hcz41_4 : w37.cell? ⟨gb346, 4, none⟩ = some (.int .i64 0) := (blk_cell BK346.out 4).trans rfl; have hcz41_5 : w37.cell? ⟨gb346, 5, none⟩ = some (.string (⟨#[]⟩ : ByteArray)) := (blk_cell BK346.out 5).trans rfl; have hfz41_0 := blk_frozen BK346.out 0; have hfz41_1 := blk_frozen BK346.out 1; have hfz41_2 := blk_frozen BK346.out 2; have hfz41_3 := blk_frozen BK346.out 3; have hfz41_4 := blk_frozen BK346.out 4; have hfz41_5 := blk_frozen BK346.out 5))
                      refine bodyPost_ret (results_list (rs := [.cell 6 31, .tmp 7, .tmp 8, .tmp 9]) rfl (by simp) (.cell gb346 31 #[.int .i64 t351, .int .i64 t352, .int .i64 t353, .int .i64 t354, .int .i64 t355, .string t356] (0, 0) _ rfl (by (with_reducible repeat (first | refine blk_drewN ?_ _ | refine blk_drew ?_ | refine blk_alloc ?_ _)); refine blk_put (cs := #[.int .i64 t351, .int .i64 t352, .int .i64 t353, .int .i64 t354, .int .i64 t355, .string (⟨#[]⟩ : ByteArray)]) ?_ 5 _ rfl; (with_reducible repeat (first | refine blk_drewN ?_ _ | refine blk_drew ?_ | refine blk_alloc ?_ _)); refine blk_put (cs := #[.int .i64 t351, .int .i64 t352, .int .i64 t353, .int .i64 t354, .int .i64 0, .string (⟨#[]⟩ : ByteArray)]) ?_ 4 _ rfl; (with_reducible repeat (first | refine blk_drewN ?_ _ | refine blk_drew ?_ | refine blk_alloc ?_ _)); refine blk_put (cs := #[.int .i64 t351, .int .i64 t352, .int .i64 t353, .int .i64 0, .int .i64 0, .string (⟨#[]⟩ : ByteArray)]) ?_ 3 _ rfl; (with_reducible repeat (first | refine blk_drewN ?_ _ | refine blk_drew ?_ | refine blk_alloc ?_ _)); refine blk_put (cs := #[.int .i64 t351, .int .i64 t352, .int .i64 0, .int .i64 0, .int .i64 0, .string (⟨#[]⟩ : ByteArray)]) ?_ 2 _ rfl; (with_reducible repeat (first | refine blk_drewN ?_ _ | refine blk_drew ?_ | refine blk_alloc ?_ _)); refine blk_put (cs := #[.int .i64 t351, .int .i64 0, .int .i64 0, .int .i64 0, .int .i64 0, .string (⟨#[]⟩ : ByteArray)]) ?_ 1 _ rfl; (with_reducible repeat (first | refine blk_drewN ?_ _ | refine blk_drew ?_ | refine blk_alloc ?_ _)); refine blk_put (cs := #[.int .i64 0, .int .i64 0, .int .i64 0, .int .i64 0, .int .i64 0, .string (⟨#[]⟩ : ByteArray)]) ?_ 0 _ rfl; (with_reducible repeat (first | refine blk_drewN ?_ _ | refine blk_drew ?_ | refine blk_alloc ?_ _)); refine blk_far ?_ NB346_359.out _; (with_reducible repeat (first | refine blk_drewN ?_ _ | refine blk_drew ?_ | refine blk_alloc ?_ _)); refine blk_far ?_ NB346_359.out _; (with_reducible repeat (first | refine blk_drewN ?_ _ | refine blk_drew ?_ | refine blk_alloc ?_ _)); refine blk_far ?_ NB346_359.out _; (with_reducible repeat (first | refine blk_drewN ?_ _ | refine blk_drew ?_ | refine blk_alloc ?_ _)); refine blk_far ?_ NB346_359.out _; (with_reducible repeat (first | refine blk_drewN ?_ _ | refine blk_drew ?_ | refine blk_alloc ?_ _)); refine blk_far ?_ NB346_359.out _; (with_reducible repeat (first | refine blk_drewN ?_ _ | refine blk_drew ?_ | refine blk_alloc ?_ _)); refine blk_far ?_ NB346_359.out _; (with_reducible repeat (first | refine blk_drewN ?_ _ | refine blk_drew ?_ | refine blk_alloc ?_ _)); exact BK346.out) Try.underlying31 rfl (by kernel_rfl) (.tmp (.tmp (.tmp .nil))))) rfl ?_
                      exact ⟨by first | rfl | (simp [errW_none, errW_some] <;> rfl) | (simp [*, errW_none, errW_some] <;> rfl), by repeat (first | (with_reducible first | exact HB.out | apply below_alloc | apply pw_below_drewN | apply below_drew1 | refine below_set ?_ GE346.out | refine below_set ?_ GE350.out | refine below_set ?_ GE359.out) | exact HB.out)⟩
                    · rw [if_neg c32] at H
                      have c32b0 : decide (x14_29 < 240) = false := decide_eq_false c32
                      clear c32
                      by_cases c42 : x14_29 = 255
                      · rw [if_pos c42] at H
                        have c42b0 : (x14_29 == 255) = true := beq_iff_eq.mpr c42
                        have c42b1 : (x14_29 != 255) = false := bne_eq_false_iff_eq.mpr c42
                        clear c42
                        replace H := Option.bind_eq_some_iff.mp H
                        obtain ⟨⟨t360, t361, t362, t363, t364, t365, t366, t367⟩, A430, H⟩ := H
                        replace H : (some (t360, t361, t362, t363, t364, t365, 0, t366, t367)) = some (r1, r2, r3, r4, r5, r6, r7, r8, r9) := H
                        have A43 := Aside0.mk A430
                        clear A430
                        simp only [Option.some.injEq, Prod.mk.injEq] at H
                        obtain ⟨rfl, rfl, rfl, rfl, rfl, rfl, rfl, rfl, rfl⟩ := H
                        have hnb44 := NB350_346.out
                        have hnc44 := NB346_350.out
                        have hcz45_0 : wc.cell? ⟨gb350, 0, none⟩ = some (.int .i64 t347) := (blk_cell BK350.out 0).trans rfl
                        have hcz45_1 : wc.cell? ⟨gb350, 1, none⟩ = some (.int .i64 0) := (blk_cell BK350.out 1).trans rfl
                        have hcz45_2 : wc.cell? ⟨gb350, 2, none⟩ = some (.int .i64 0) := (blk_cell BK350.out 2).trans rfl
                        have hcz45_3 : wc.cell? ⟨gb350, 3, none⟩ = some (.int .i64 0) := (blk_cell BK350.out 3).trans rfl
                        have hcz45_4 : wc.cell? ⟨gb350, 4, none⟩ = some (.int .i64 0) := (blk_cell BK350.out 4).trans rfl
                        have hcz45_5 : wc.cell? ⟨gb350, 5, none⟩ = some (.string (⟨#[]⟩ : ByteArray)) := (blk_cell BK350.out 5).trans rfl
                        have hfz45_0 := blk_frozen BK350.out 0
                        have hfz45_1 := blk_frozen BK350.out 1
                        have hfz45_2 := blk_frozen BK350.out 2
                        have hfz45_3 := blk_frozen BK350.out 3
                        have hfz45_4 := blk_frozen BK350.out 4
                        have hfz45_5 := blk_frozen BK350.out 5
                        go_wp2_with (first | ((with_reducible refine gate_callee (f := 40) rfl ?_); refine goesL_ (some 97) rfl rfl Try.func40 (by kernel_rfl) rfl #[.string a0, .int .i64 x11_29, .agg #[.int .i64 t347, .int .i64 16, .int .i64 0, .int .i64 x14_29, .int .i64 0, .string (⟨#[]⟩ : ByteArray)]] rfl (by (try simp only [List.map_toArray, List.map_cons, List.map_nil]); first | done | rfl | (simp only [List.length_drop, List.length_take]; rfl)) ?_; (with_reducible refine (partitaref15_long.calls kj29 a0 x11_29 t347 16 0 x14_29 0 (⟨#[]⟩ : ByteArray) t360 t361 t362 t363 t364 t365 t366 t367 _ A43.out).mono ?_); rintro e w46 ⟨rfl, hb⟩; refine ⟨_, rfl, ?_⟩; have n0_ := Aside0.mk (blk_below (g := gb346) (o := .cells #[.int .i64 0, .int .i64 0, .int .i64 0, .int .i64 0, .int .i64 0, .string (⟨#[]⟩ : ByteArray)] 31 (0, 0)) (by (with_reducible repeat (first | refine blk_drewN ?_ _ | refine blk_drew ?_ | refine blk_alloc ?_ _)); refine blk_far ?_ NB346_350.out _; (with_reducible repeat (first | refine blk_drewN ?_ _ | refine blk_drew ?_ | refine blk_alloc ?_ _)); refine blk_far ?_ NB346_350.out _; (with_reducible repeat (first | refine blk_drewN ?_ _ | refine blk_drew ?_ | refine blk_alloc ?_ _)); refine blk_far ?_ NB346_350.out _; (with_reducible repeat (first | refine blk_drewN ?_ _ | refine blk_drew ?_ | refine blk_alloc ?_ _)); exact BK346.out) hb); have n1_ := Aside0.mk (blk_below (g := gb350) (o := .cells #[.int .i64 t347, .int .i64 16, .int .i64 0, .int .i64 x14_29, .int .i64 0, .string (⟨#[]⟩ : ByteArray)] 31 (0, 0)) (by (with_reducible repeat (first | refine blk_drewN ?_ _ | refine blk_drew ?_ | refine blk_alloc ?_ _)); refine blk_put (cs := #[.int .i64 t347, .int .i64 15, .int .i64 0, .int .i64 x14_29, .int .i64 0, .string (⟨#[]⟩ : ByteArray)]) ?_ 1 _ rfl; (with_reducible repeat (first | refine blk_drewN ?_ _ | refine blk_drew ?_ | refine blk_alloc ?_ _)); refine blk_put (cs := #[.int .i64 t347, .int .i64 15, .int .i64 0, .int .i64 0, .int .i64 0, .string (⟨#[]⟩ : ByteArray)]) ?_ 3 _ rfl; (with_reducible repeat (first | refine blk_drewN ?_ _ | refine blk_drew ?_ | refine blk_alloc ?_ _)); refine blk_put (cs := #[.int .i64 t347, .int .i64 0, .int .i64 0, .int .i64 0, .int .i64 0, .string (⟨#[]⟩ : ByteArray)]) ?_ 1 _ rfl; (with_reducible repeat (first | refine blk_drewN ?_ _ | refine blk_drew ?_ | refine blk_alloc ?_ _)); exact BK350.out) hb); have n2_ := Aside0.mk (below_step (by repeat (first | (with_reducible first | exact HB.out | apply below_alloc | apply pw_below_drewN | apply below_drew1 | refine below_set ?_ GE346.out | refine below_set ?_ GE350.out) | exact HB.out)) hb); clear BK346; clear BK350; clear HB; have BK346 := n0_; have BK350 := n1_; have HB := n2_; clear n0_ n1_ n2_; (try clear hb); (try clear hb2); (try clear hk); (try clear hi)) | ((with_reducible refine gate_dst (N := 18) rfl ?_); refine box_event ?hg (N := 18) ?hd (cs := #[.int .i64 0, .int .i64 0, .int .i64 0, .int .i64 0, .int .i64 0, .string (⟨#[]⟩ : ByteArray)]) (t := 31) ?hr ?_; (case hd => rfl); (case hg => rfl); (case hr => first | (go_simp; done) | (go_simp; rfl)); intro gb368 hg w47 hbox hb; have n0_ := Aside0.mk (blk_below (g := gb346) (o := .cells #[.int .i64 0, .int .i64 0, .int .i64 0, .int .i64 0, .int .i64 0, .string (⟨#[]⟩ : ByteArray)] 31 (0, 0)) (by (with_reducible repeat (first | refine blk_drewN ?_ _ | refine blk_drew ?_ | refine blk_alloc ?_ _)); exact BK346.out) hb); have n1_ := Aside0.mk (blk_below (g := gb350) (o := .cells #[.int .i64 t347, .int .i64 16, .int .i64 0, .int .i64 x14_29, .int .i64 0, .string (⟨#[]⟩ : ByteArray)] 31 (0, 0)) (by (with_reducible repeat (first | refine blk_drewN ?_ _ | refine blk_drew ?_ | refine blk_alloc ?_ _)); exact BK350.out) hb); have n2_ := Aside0.mk (below_step (by repeat (first | (with_reducible first | exact HB.out | apply below_alloc | apply pw_below_drewN | apply below_drew1 | refine below_set ?_ GE346.out | refine below_set ?_ GE350.out) | exact HB.out)) hb); have n3_ := Aside0.mk (hbox); have n4_ := Aside0.mk ((by rw [hg]; exact (below_size (by repeat (first | (with_reducible first | exact HB.out | apply below_alloc | apply pw_below_drewN | apply below_drew1 | refine below_set ?_ GE346.out | refine below_set ?_ GE350.out) | exact HB.out))) : w.heap.size ≤ gb368)); have n5_ := Aside0.mk ((by rw [hg]; exact (below_size (by repeat (first | (with_reducible first | exact HB.out | apply below_alloc | apply pw_below_drewN | apply below_drew1 | refine below_set ?_ GE346.out | refine below_set ?_ GE350.out) | exact HB.out))) : w.heap.size ≤ gb368)); have n6_ := Aside0.mk ((by rw [hg]; exact Nat.ne_of_lt (blk_lt (g := gb346) (o := .cells #[.int .i64 0, .int .i64 0, .int .i64 0, .int .i64 0, .int .i64 0, .string (⟨#[]⟩ : ByteArray)] 31 (0, 0)) (by (with_reducible repeat (first | refine blk_drewN ?_ _ | refine blk_drew ?_ | refine blk_alloc ?_ _)); exact BK346.out)) : gb346 ≠ gb368)); have n7_ := Aside0.mk ((by rw [hg]; exact Nat.ne_of_gt (blk_lt (g := gb346) (o := .cells #[.int .i64 0, .int .i64 0, .int .i64 0, .int .i64 0, .int .i64 0, .string (⟨#[]⟩ : ByteArray)] 31 (0, 0)) (by (with_reducible repeat (first | refine blk_drewN ?_ _ | refine blk_drew ?_ | refine blk_alloc ?_ _)); exact BK346.out)) : gb368 ≠ gb346)); have n8_ := Aside0.mk ((by rw [hg]; exact Nat.ne_of_lt (blk_lt (g := gb350) (o := .cells #[.int .i64 t347, .int .i64 16, .int .i64 0, .int .i64 x14_29, .int .i64 0, .string (⟨#[]⟩ : ByteArray)] 31 (0, 0)) (by (with_reducible repeat (first | refine blk_drewN ?_ _ | refine blk_drew ?_ | refine blk_alloc ?_ _)); exact BK350.out)) : gb350 ≠ gb368)); have n9_ := Aside0.mk ((by rw [hg]; exact Nat.ne_of_gt (blk_lt (g := gb350) (o := .cells #[.int .i64 t347, .int .i64 16, .int .i64 0, .int .i64 x14_29, .int .i64 0, .string (⟨#[]⟩ : ByteArray)] 31 (0, 0)) (by (with_reducible repeat (first | refine blk_drewN ?_ _ | refine blk_drew ?_ | refine blk_alloc ?_ _)); exact BK350.out)) : gb368 ≠ gb350)); clear BK346; clear BK350; clear HB; have BK346 := n0_; have BK350 := n1_; have HB := n2_; have BK368 := n3_; have GW368 := n4_; have GE368 := n5_; have NB346_368 := n6_; have NB368_346 := n7_; have NB350_368 := n8_; have NB368_350 := n9_; clear n0_ n1_ n2_ n3_ n4_ n5_ n6_ n7_ n8_ n9_; clear hb hbox hg; have hnb48 := NB368_346.out; have hnc48 := NB346_368.out; have hnb49 := NB368_350.out; have hnc49 := NB350_368.out; have hcz50_0 : w47.cell? ⟨gb368, 0, none⟩ = some (.int .i64 0) := (blk_cell BK368.out 0).trans rfl; have hcz50_1 : w47.cell? ⟨gb368, 1, none⟩ = some (.int .i64 0) := (blk_cell BK368.out 1).trans rfl; have hcz50_2 : w47.cell? ⟨gb368, 2, none⟩ = some (.int .i64 0) := (blk_cell BK368.out 2).trans rfl; have hcz50_3 : w47.cell? ⟨gb368, 3, none⟩ = some (.int .i64 0) := (blk_cell BK368.out 3).trans rfl; have hcz50_4 : w47.cell? ⟨gb368, 4, none⟩ = some (.int .i64 0) := (blk_cell BK368.out 4).trans rfl; have hcz50_5 : w47.cell? ⟨gb368, 5, none⟩ = some (.string (⟨#[]⟩ : ByteArray)) := (blk_cell BK368.out 5).trans rfl; have hfz50_0 := blk_frozen BK368.out 0; have hfz50_1 := blk_frozen BK368.out 1; have hfz50_2 := blk_frozen BK368.out 2; have hfz50_3 := blk_frozen BK368.out 3; have hfz50_4 := blk_frozen BK368.out 4; have hfz50_5 := blk_frozen BK368.out 5; have hcz51_0 : w47.cell? ⟨gb346, 0, none⟩ = some (.int .i64 0) := (blk_cell BK346.out 0).trans rfl; have hcz51_1 : w47.cell? ⟨gb346, 1, none⟩ = some (.int .i64 0) := (blk_cell BK346.out 1).trans rfl; have hcz51_2 : w47.cell? ⟨gb346, 2, none⟩ = some (.int .i64 0) := (blk_cell BK346.out 2).trans rfl; have hcz51_3 : w47.cell? ⟨gb346, 3, none⟩ = some (.int .i64 0) := (blk_cell BK346.out 3).trans rfl; have hcz51_4 : w47.cell? ⟨gb346, 4, none⟩ = some (.int .i64 0) := (blk_cell BK346.out 4).trans rfl; have hcz51_5 : w47.cell? ⟨gb346, 5, none⟩ = some (.string (⟨#[]⟩ : ByteArray)) := (blk_cell BK346.out 5).trans rfl; have hfz51_0 := blk_frozen BK346.out 0; have hfz51_1 := blk_frozen BK346.out 1; have hfz51_2 := blk_frozen BK346.out 2; have hfz51_3 := blk_frozen BK346.out 3; have hfz51_4 := blk_frozen BK346.out 4; have hfz51_5 := blk_frozen BK346.out 5))
                        refine bodyPost_ret (results_list (rs := [.cell 6 31, .tmp 7, .tmp 8, .tmp 9]) rfl (by simp) (.cell gb346 31 #[.int .i64 t360, .int .i64 t361, .int .i64 t362, .int .i64 t363, .int .i64 t364, .string t365] (0, 0) _ rfl (by (with_reducible repeat (first | refine blk_drewN ?_ _ | refine blk_drew ?_ | refine blk_alloc ?_ _)); refine blk_put (cs := #[.int .i64 t360, .int .i64 t361, .int .i64 t362, .int .i64 t363, .int .i64 t364, .string (⟨#[]⟩ : ByteArray)]) ?_ 5 _ rfl; (with_reducible repeat (first | refine blk_drewN ?_ _ | refine blk_drew ?_ | refine blk_alloc ?_ _)); refine blk_put (cs := #[.int .i64 t360, .int .i64 t361, .int .i64 t362, .int .i64 t363, .int .i64 0, .string (⟨#[]⟩ : ByteArray)]) ?_ 4 _ rfl; (with_reducible repeat (first | refine blk_drewN ?_ _ | refine blk_drew ?_ | refine blk_alloc ?_ _)); refine blk_put (cs := #[.int .i64 t360, .int .i64 t361, .int .i64 t362, .int .i64 0, .int .i64 0, .string (⟨#[]⟩ : ByteArray)]) ?_ 3 _ rfl; (with_reducible repeat (first | refine blk_drewN ?_ _ | refine blk_drew ?_ | refine blk_alloc ?_ _)); refine blk_put (cs := #[.int .i64 t360, .int .i64 t361, .int .i64 0, .int .i64 0, .int .i64 0, .string (⟨#[]⟩ : ByteArray)]) ?_ 2 _ rfl; (with_reducible repeat (first | refine blk_drewN ?_ _ | refine blk_drew ?_ | refine blk_alloc ?_ _)); refine blk_put (cs := #[.int .i64 t360, .int .i64 0, .int .i64 0, .int .i64 0, .int .i64 0, .string (⟨#[]⟩ : ByteArray)]) ?_ 1 _ rfl; (with_reducible repeat (first | refine blk_drewN ?_ _ | refine blk_drew ?_ | refine blk_alloc ?_ _)); refine blk_put (cs := #[.int .i64 0, .int .i64 0, .int .i64 0, .int .i64 0, .int .i64 0, .string (⟨#[]⟩ : ByteArray)]) ?_ 0 _ rfl; (with_reducible repeat (first | refine blk_drewN ?_ _ | refine blk_drew ?_ | refine blk_alloc ?_ _)); refine blk_far ?_ NB346_368.out _; (with_reducible repeat (first | refine blk_drewN ?_ _ | refine blk_drew ?_ | refine blk_alloc ?_ _)); refine blk_far ?_ NB346_368.out _; (with_reducible repeat (first | refine blk_drewN ?_ _ | refine blk_drew ?_ | refine blk_alloc ?_ _)); refine blk_far ?_ NB346_368.out _; (with_reducible repeat (first | refine blk_drewN ?_ _ | refine blk_drew ?_ | refine blk_alloc ?_ _)); refine blk_far ?_ NB346_368.out _; (with_reducible repeat (first | refine blk_drewN ?_ _ | refine blk_drew ?_ | refine blk_alloc ?_ _)); refine blk_far ?_ NB346_368.out _; (with_reducible repeat (first | refine blk_drewN ?_ _ | refine blk_drew ?_ | refine blk_alloc ?_ _)); refine blk_far ?_ NB346_368.out _; (with_reducible repeat (first | refine blk_drewN ?_ _ | refine blk_drew ?_ | refine blk_alloc ?_ _)); exact BK346.out) Try.underlying31 rfl (by kernel_rfl) (.tmp (.tmp (.tmp .nil))))) rfl ?_
                        exact ⟨by first | rfl | (simp [errW_none, errW_some] <;> rfl) | (simp [*, errW_none, errW_some] <;> rfl), by repeat (first | (with_reducible first | exact HB.out | apply below_alloc | apply pw_below_drewN | apply below_drew1 | refine below_set ?_ GE346.out | refine below_set ?_ GE350.out | refine below_set ?_ GE368.out) | exact HB.out)⟩
                      · rw [if_neg c42] at H
                        have c42b0 : (x14_29 == 255) = false := beq_eq_false_iff_ne.mpr c42
                        have c42b1 : (x14_29 != 255) = true := bne_iff_ne.mpr c42
                        replace H := Option.bind_eq_some_iff.mp H
                        obtain ⟨⟨t369, t370, t371, t372, t373, t374, t375, t376⟩, A520, H⟩ := H
                        replace H : (some (t369, t370, t371, t372, t373, t374, 0, t375, t376)) = some (r1, r2, r3, r4, r5, r6, r7, r8, r9) := H
                        have A52 := Aside0.mk A520
                        clear A520
                        simp only [Option.some.injEq, Prod.mk.injEq] at H
                        obtain ⟨rfl, rfl, rfl, rfl, rfl, rfl, rfl, rfl, rfl⟩ := H
                        have hnb53 := NB350_346.out
                        have hnc53 := NB346_350.out
                        have hcz54_0 : wc.cell? ⟨gb350, 0, none⟩ = some (.int .i64 t347) := (blk_cell BK350.out 0).trans rfl
                        have hcz54_1 : wc.cell? ⟨gb350, 1, none⟩ = some (.int .i64 0) := (blk_cell BK350.out 1).trans rfl
                        have hcz54_2 : wc.cell? ⟨gb350, 2, none⟩ = some (.int .i64 0) := (blk_cell BK350.out 2).trans rfl
                        have hcz54_3 : wc.cell? ⟨gb350, 3, none⟩ = some (.int .i64 0) := (blk_cell BK350.out 3).trans rfl
                        have hcz54_4 : wc.cell? ⟨gb350, 4, none⟩ = some (.int .i64 0) := (blk_cell BK350.out 4).trans rfl
                        have hcz54_5 : wc.cell? ⟨gb350, 5, none⟩ = some (.string (⟨#[]⟩ : ByteArray)) := (blk_cell BK350.out 5).trans rfl
                        have hfz54_0 := blk_frozen BK350.out 0
                        have hfz54_1 := blk_frozen BK350.out 1
                        have hfz54_2 := blk_frozen BK350.out 2
                        have hfz54_3 := blk_frozen BK350.out 3
                        have hfz54_4 := blk_frozen BK350.out 4
                        have hfz54_5 := blk_frozen BK350.out 5
                        go_wp2_with (first | ((with_reducible refine gate_callee (f := 40) rfl ?_); refine goesL_ (some 97) rfl rfl Try.func40 (by kernel_rfl) rfl #[.string a0, .int .i64 x11_29, .agg #[.int .i64 t347, .int .i64 15, .int .i64 0, .int .i64 x14_29, .int .i64 0, .string (⟨#[]⟩ : ByteArray)]] rfl (by (try simp only [List.map_toArray, List.map_cons, List.map_nil]); first | done | rfl | (simp only [List.length_drop, List.length_take]; rfl)) ?_; (with_reducible refine (partitaref15_long.calls kj29 a0 x11_29 t347 15 0 x14_29 0 (⟨#[]⟩ : ByteArray) t369 t370 t371 t372 t373 t374 t375 t376 _ A52.out).mono ?_); rintro e w55 ⟨rfl, hb⟩; refine ⟨_, rfl, ?_⟩; have n0_ := Aside0.mk (blk_below (g := gb346) (o := .cells #[.int .i64 0, .int .i64 0, .int .i64 0, .int .i64 0, .int .i64 0, .string (⟨#[]⟩ : ByteArray)] 31 (0, 0)) (by (with_reducible repeat (first | refine blk_drewN ?_ _ | refine blk_drew ?_ | refine blk_alloc ?_ _)); refine blk_far ?_ NB346_350.out _; (with_reducible repeat (first | refine blk_drewN ?_ _ | refine blk_drew ?_ | refine blk_alloc ?_ _)); refine blk_far ?_ NB346_350.out _; (with_reducible repeat (first | refine blk_drewN ?_ _ | refine blk_drew ?_ | refine blk_alloc ?_ _)); exact BK346.out) hb); have n1_ := Aside0.mk (blk_below (g := gb350) (o := .cells #[.int .i64 t347, .int .i64 15, .int .i64 0, .int .i64 x14_29, .int .i64 0, .string (⟨#[]⟩ : ByteArray)] 31 (0, 0)) (by (with_reducible repeat (first | refine blk_drewN ?_ _ | refine blk_drew ?_ | refine blk_alloc ?_ _)); refine blk_put (cs := #[.int .i64 t347, .int .i64 15, .int .i64 0, .int .i64 0, .int .i64 0, .string (⟨#[]⟩ : ByteArray)]) ?_ 3 _ rfl; (with_reducible repeat (first | refine blk_drewN ?_ _ | refine blk_drew ?_ | refine blk_alloc ?_ _)); refine blk_put (cs := #[.int .i64 t347, .int .i64 0, .int .i64 0, .int .i64 0, .int .i64 0, .string (⟨#[]⟩ : ByteArray)]) ?_ 1 _ rfl; (with_reducible repeat (first | refine blk_drewN ?_ _ | refine blk_drew ?_ | refine blk_alloc ?_ _)); exact BK350.out) hb); have n2_ := Aside0.mk (below_step (by repeat (first | (with_reducible first | exact HB.out | apply below_alloc | apply pw_below_drewN | apply below_drew1 | refine below_set ?_ GE346.out | refine below_set ?_ GE350.out) | exact HB.out)) hb); clear BK346; clear BK350; clear HB; have BK346 := n0_; have BK350 := n1_; have HB := n2_; clear n0_ n1_ n2_; (try clear hb); (try clear hb2); (try clear hk); (try clear hi)) | ((with_reducible refine gate_dst (N := 18) rfl ?_); refine box_event ?hg (N := 18) ?hd (cs := #[.int .i64 0, .int .i64 0, .int .i64 0, .int .i64 0, .int .i64 0, .string (⟨#[]⟩ : ByteArray)]) (t := 31) ?hr ?_; (case hd => rfl); (case hg => rfl); (case hr => first | (go_simp; done) | (go_simp; rfl)); intro gb377 hg w56 hbox hb; have n0_ := Aside0.mk (blk_below (g := gb346) (o := .cells #[.int .i64 0, .int .i64 0, .int .i64 0, .int .i64 0, .int .i64 0, .string (⟨#[]⟩ : ByteArray)] 31 (0, 0)) (by (with_reducible repeat (first | refine blk_drewN ?_ _ | refine blk_drew ?_ | refine blk_alloc ?_ _)); exact BK346.out) hb); have n1_ := Aside0.mk (blk_below (g := gb350) (o := .cells #[.int .i64 t347, .int .i64 15, .int .i64 0, .int .i64 x14_29, .int .i64 0, .string (⟨#[]⟩ : ByteArray)] 31 (0, 0)) (by (with_reducible repeat (first | refine blk_drewN ?_ _ | refine blk_drew ?_ | refine blk_alloc ?_ _)); exact BK350.out) hb); have n2_ := Aside0.mk (below_step (by repeat (first | (with_reducible first | exact HB.out | apply below_alloc | apply pw_below_drewN | apply below_drew1 | refine below_set ?_ GE346.out | refine below_set ?_ GE350.out) | exact HB.out)) hb); have n3_ := Aside0.mk (hbox); have n4_ := Aside0.mk ((by rw [hg]; exact (below_size (by repeat (first | (with_reducible first | exact HB.out | apply below_alloc | apply pw_below_drewN | apply below_drew1 | refine below_set ?_ GE346.out | refine below_set ?_ GE350.out) | exact HB.out))) : w.heap.size ≤ gb377)); have n5_ := Aside0.mk ((by rw [hg]; exact (below_size (by repeat (first | (with_reducible first | exact HB.out | apply below_alloc | apply pw_below_drewN | apply below_drew1 | refine below_set ?_ GE346.out | refine below_set ?_ GE350.out) | exact HB.out))) : w.heap.size ≤ gb377)); have n6_ := Aside0.mk ((by rw [hg]; exact Nat.ne_of_lt (blk_lt (g := gb346) (o := .cells #[.int .i64 0, .int .i64 0, .int .i64 0, .int .i64 0, .int .i64 0, .string (⟨#[]⟩ : ByteArray)] 31 (0, 0)) (by (with_reducible repeat (first | refine blk_drewN ?_ _ | refine blk_drew ?_ | refine blk_alloc ?_ _)); exact BK346.out)) : gb346 ≠ gb377)); have n7_ := Aside0.mk ((by rw [hg]; exact Nat.ne_of_gt (blk_lt (g := gb346) (o := .cells #[.int .i64 0, .int .i64 0, .int .i64 0, .int .i64 0, .int .i64 0, .string (⟨#[]⟩ : ByteArray)] 31 (0, 0)) (by (with_reducible repeat (first | refine blk_drewN ?_ _ | refine blk_drew ?_ | refine blk_alloc ?_ _)); exact BK346.out)) : gb377 ≠ gb346)); have n8_ := Aside0.mk ((by rw [hg]; exact Nat.ne_of_lt (blk_lt (g := gb350) (o := .cells #[.int .i64 t347, .int .i64 15, .int .i64 0, .int .i64 x14_29, .int .i64 0, .string (⟨#[]⟩ : ByteArray)] 31 (0, 0)) (by (with_reducible repeat (first | refine blk_drewN ?_ _ | refine blk_drew ?_ | refine blk_alloc ?_ _)); exact BK350.out)) : gb350 ≠ gb377)); have n9_ := Aside0.mk ((by rw [hg]; exact Nat.ne_of_gt (blk_lt (g := gb350) (o := .cells #[.int .i64 t347, .int .i64 15, .int .i64 0, .int .i64 x14_29, .int .i64 0, .string (⟨#[]⟩ : ByteArray)] 31 (0, 0)) (by (with_reducible repeat (first | refine blk_drewN ?_ _ | refine blk_drew ?_ | refine blk_alloc ?_ _)); exact BK350.out)) : gb377 ≠ gb350)); clear BK346; clear BK350; clear HB; have BK346 := n0_; have BK350 := n1_; have HB := n2_; have BK377 := n3_; have GW377 := n4_; have GE377 := n5_; have NB346_377 := n6_; have NB377_346 := n7_; have NB350_377 := n8_; have NB377_350 := n9_; clear n0_ n1_ n2_ n3_ n4_ n5_ n6_ n7_ n8_ n9_; clear hb hbox hg; have hnb57 := NB377_346.out; have hnc57 := NB346_377.out; have hnb58 := NB377_350.out; have hnc58 := NB350_377.out; have hcz59_0 : w56.cell? ⟨gb377, 0, none⟩ = some (.int .i64 0) := (blk_cell BK377.out 0).trans rfl; have hcz59_1 : w56.cell? ⟨gb377, 1, none⟩ = some (.int .i64 0) := (blk_cell BK377.out 1).trans rfl; have hcz59_2 : w56.cell? ⟨gb377, 2, none⟩ = some (.int .i64 0) := (blk_cell BK377.out 2).trans rfl; have hcz59_3 : w56.cell? ⟨gb377, 3, none⟩ = some (.int .i64 0) := (blk_cell BK377.out 3).trans rfl; have hcz59_4 : w56.cell? ⟨gb377, 4, none⟩ = some (.int .i64 0) := (blk_cell BK377.out 4).trans rfl; have hcz59_5 : w56.cell? ⟨gb377, 5, none⟩ = some (.string (⟨#[]⟩ : ByteArray)) := (blk_cell BK377.out 5).trans rfl; have hfz59_0 := blk_frozen BK377.out 0; have hfz59_1 := blk_frozen BK377.out 1; have hfz59_2 := blk_frozen BK377.out 2; have hfz59_3 := blk_frozen BK377.out 3; have hfz59_4 := blk_frozen BK377.out 4; have hfz59_5 := blk_frozen BK377.out 5; have hcz60_0 : w56.cell? ⟨gb346, 0, none⟩ = some (.int .i64 0) := (blk_cell BK346.out 0).trans rfl; have hcz60_1 : w56.cell? ⟨gb346, 1, none⟩ = some (.int .i64 0) := (blk_cell BK346.out 1).trans rfl; have hcz60_2 : w56.cell? ⟨gb346, 2, none⟩ = some (.int .i64 0) := (blk_cell BK346.out 2).trans rfl; have hcz60_3 : w56.cell? ⟨gb346, 3, none⟩ = some (.int .i64 0) := (blk_cell BK346.out 3).trans rfl; have hcz60_4 : w56.cell? ⟨gb346, 4, none⟩ = some (.int .i64 0) := (blk_cell BK346.out 4).trans rfl; have hcz60_5 : w56.cell? ⟨gb346, 5, none⟩ = some (.string (⟨#[]⟩ : ByteArray)) := (blk_cell BK346.out 5).trans rfl; have hfz60_0 := blk_frozen BK346.out 0; have hfz60_1 := blk_frozen BK346.out 1; have hfz60_2 := blk_frozen BK346.out 2; have hfz60_3 := blk_frozen BK346.out 3; have hfz60_4 := blk_frozen BK346.out 4; have hfz60_5 := blk_frozen BK346.out 5))
                        refine bodyPost_ret (results_list (rs := [.cell 6 31, .tmp 7, .tmp 8, .tmp 9]) rfl (by simp) (.cell gb346 31 #[.int .i64 t369, .int .i64 t370, .int .i64 t371, .int .i64 t372, .int .i64 t373, .string t374] (0, 0) _ rfl (by (with_reducible repeat (first | refine blk_drewN ?_ _ | refine blk_drew ?_ | refine blk_alloc ?_ _)); refine blk_put (cs := #[.int .i64 t369, .int .i64 t370, .int .i64 t371, .int .i64 t372, .int .i64 t373, .string (⟨#[]⟩ : ByteArray)]) ?_ 5 _ rfl; (with_reducible repeat (first | refine blk_drewN ?_ _ | refine blk_drew ?_ | refine blk_alloc ?_ _)); refine blk_put (cs := #[.int .i64 t369, .int .i64 t370, .int .i64 t371, .int .i64 t372, .int .i64 0, .string (⟨#[]⟩ : ByteArray)]) ?_ 4 _ rfl; (with_reducible repeat (first | refine blk_drewN ?_ _ | refine blk_drew ?_ | refine blk_alloc ?_ _)); refine blk_put (cs := #[.int .i64 t369, .int .i64 t370, .int .i64 t371, .int .i64 0, .int .i64 0, .string (⟨#[]⟩ : ByteArray)]) ?_ 3 _ rfl; (with_reducible repeat (first | refine blk_drewN ?_ _ | refine blk_drew ?_ | refine blk_alloc ?_ _)); refine blk_put (cs := #[.int .i64 t369, .int .i64 t370, .int .i64 0, .int .i64 0, .int .i64 0, .string (⟨#[]⟩ : ByteArray)]) ?_ 2 _ rfl; (with_reducible repeat (first | refine blk_drewN ?_ _ | refine blk_drew ?_ | refine blk_alloc ?_ _)); refine blk_put (cs := #[.int .i64 t369, .int .i64 0, .int .i64 0, .int .i64 0, .int .i64 0, .string (⟨#[]⟩ : ByteArray)]) ?_ 1 _ rfl; (with_reducible repeat (first | refine blk_drewN ?_ _ | refine blk_drew ?_ | refine blk_alloc ?_ _)); refine blk_put (cs := #[.int .i64 0, .int .i64 0, .int .i64 0, .int .i64 0, .int .i64 0, .string (⟨#[]⟩ : ByteArray)]) ?_ 0 _ rfl; (with_reducible repeat (first | refine blk_drewN ?_ _ | refine blk_drew ?_ | refine blk_alloc ?_ _)); refine blk_far ?_ NB346_377.out _; (with_reducible repeat (first | refine blk_drewN ?_ _ | refine blk_drew ?_ | refine blk_alloc ?_ _)); refine blk_far ?_ NB346_377.out _; (with_reducible repeat (first | refine blk_drewN ?_ _ | refine blk_drew ?_ | refine blk_alloc ?_ _)); refine blk_far ?_ NB346_377.out _; (with_reducible repeat (first | refine blk_drewN ?_ _ | refine blk_drew ?_ | refine blk_alloc ?_ _)); refine blk_far ?_ NB346_377.out _; (with_reducible repeat (first | refine blk_drewN ?_ _ | refine blk_drew ?_ | refine blk_alloc ?_ _)); refine blk_far ?_ NB346_377.out _; (with_reducible repeat (first | refine blk_drewN ?_ _ | refine blk_drew ?_ | refine blk_alloc ?_ _)); refine blk_far ?_ NB346_377.out _; (with_reducible repeat (first | refine blk_drewN ?_ _ | refine blk_drew ?_ | refine blk_alloc ?_ _)); exact BK346.out) Try.underlying31 rfl (by kernel_rfl) (.tmp (.tmp (.tmp .nil))))) rfl ?_
                        exact ⟨by first | rfl | (simp [errW_none, errW_some] <;> rfl) | (simp [*, errW_none, errW_some] <;> rfl), by repeat (first | (with_reducible first | exact HB.out | apply below_alloc | apply pw_below_drewN | apply below_drew1 | refine below_set ?_ GE346.out | refine below_set ?_ GE350.out | refine below_set ?_ GE377.out) | exact HB.out)⟩
        · rw [if_neg c13] at H
          exact absurd H (by simp)
      · rw [if_neg c12] at H
        exact absurd H (by simp)
  · rw [if_neg c5] at H
    have c5b0 : (t349 == 0) = false := beq_eq_false_iff_ne.mpr c5
    have c5b1 : (t349 != 0) = true := bne_iff_ne.mpr c5
    simp only [Option.some.injEq, Prod.mk.injEq] at H
    obtain ⟨rfl, rfl, rfl, rfl, rfl, rfl, rfl, rfl, rfl⟩ := H
    go_enter Try.func33, Try.ntmps33
    go_wp2_with (first | ((with_reducible refine gate_dst (N := 6) rfl ?_); refine box_event ?hg (N := 6) ?hd (cs := #[.int .i64 0, .int .i64 0, .int .i64 0, .int .i64 0, .int .i64 0, .string (⟨#[]⟩ : ByteArray)]) (t := 31) ?hr ?_; (case hd => rfl); (case hg => rfl); (case hr => first | (go_simp; done) | (go_simp; rfl)); intro gb346 hg w61 hbox hb; have n0_ := Aside0.mk (below_step (by repeat (first | (with_reducible first | exact HB.out | apply below_alloc | apply pw_below_drewN | apply below_drew1) | exact HB.out)) hb); have n1_ := Aside0.mk (hbox); have n2_ := Aside0.mk ((by rw [hg]; exact (below_size (by repeat (first | (with_reducible first | exact HB.out | apply below_alloc | apply pw_below_drewN | apply below_drew1) | exact HB.out))) : w.heap.size ≤ gb346)); have n3_ := Aside0.mk ((by rw [hg]; exact (below_size (by repeat (first | (with_reducible first | exact HB.out | apply below_alloc | apply pw_below_drewN | apply below_drew1) | exact HB.out))) : w.heap.size ≤ gb346)); clear HB; have HB := n0_; have BK346 := n1_; have GW346 := n2_; have GE346 := n3_; clear n0_ n1_ n2_ n3_; clear hb hbox hg) | ((with_reducible refine gate_callee (f := 18) rfl ?_); refine goesL_ (some 24) rfl rfl Try.func18 (by kernel_rfl) rfl #[.string a0, .int .i64 a1] rfl (by (try simp only [List.map_toArray, List.map_cons, List.map_nil]); first | done | rfl | (simp only [List.length_drop, List.length_take]; rfl)) ?_; (with_reducible refine (partitaref15_ReadVlq.calls k a0 a1 t347 t348 t349 _ A4.out).mono ?_); rintro e w' ⟨rfl, ⟨nd, rfl⟩⟩; refine ⟨_, rfl, ?_⟩; (try (rw [drewN_self w61]; generalize hq_ : World.drewN w61 _ = w61; have n0_ : Aside0 (w61.heap[gb346]? = some (.cells #[.int .i64 0, .int .i64 0, .int .i64 0, .int .i64 0, .int .i64 0, .string (⟨#[]⟩ : ByteArray)] 31 (0, 0))) := ⟨by rw [← hq_]; exact (by (with_reducible repeat (first | refine blk_drewN ?_ _ | refine blk_drew ?_ | refine blk_alloc ?_ _)); exact BK346.out)⟩; have n1_ : Aside0 (Below w.heap.size w w61) := ⟨by rw [← hq_]; exact (by repeat (first | (with_reducible first | exact HB.out | apply below_alloc | apply pw_below_drewN | apply below_drew1 | refine below_set ?_ GE346.out) | exact HB.out))⟩; clear BK346 HB hq_; have BK346 := n0_; have HB := n1_; clear n0_ n1_))) | ((with_reducible refine gate_dst (N := 13) rfl ?_); refine box_event ?hg (N := 13) ?hd (cs := #[.int .i64 0, .int .i64 0, .int .i64 0, .int .i64 0, .int .i64 0, .string (⟨#[]⟩ : ByteArray)]) (t := 31) ?hr ?_; (case hd => rfl); (case hg => rfl); (case hr => first | (go_simp; done) | (go_simp; rfl)); intro gb350 hg w62 hbox hb; have n0_ := Aside0.mk (blk_below (g := gb346) (o := .cells #[.int .i64 0, .int .i64 0, .int .i64 0, .int .i64 0, .int .i64 0, .string (⟨#[]⟩ : ByteArray)] 31 (0, 0)) (by (with_reducible repeat (first | refine blk_drewN ?_ _ | refine blk_drew ?_ | refine blk_alloc ?_ _)); exact BK346.out) hb); have n1_ := Aside0.mk (below_step (by repeat (first | (with_reducible first | exact HB.out | apply below_alloc | apply pw_below_drewN | apply below_drew1 | refine below_set ?_ GE346.out) | exact HB.out)) hb); have n2_ := Aside0.mk (hbox); have n3_ := Aside0.mk ((by rw [hg]; exact (below_size (by repeat (first | (with_reducible first | exact HB.out | apply below_alloc | apply pw_below_drewN | apply below_drew1 | refine below_set ?_ GE346.out) | exact HB.out))) : w.heap.size ≤ gb350)); have n4_ := Aside0.mk ((by rw [hg]; exact (below_size (by repeat (first | (with_reducible first | exact HB.out | apply below_alloc | apply pw_below_drewN | apply below_drew1 | refine below_set ?_ GE346.out) | exact HB.out))) : w.heap.size ≤ gb350)); have n5_ := Aside0.mk ((by rw [hg]; exact Nat.ne_of_lt (blk_lt (g := gb346) (o := .cells #[.int .i64 0, .int .i64 0, .int .i64 0, .int .i64 0, .int .i64 0, .string (⟨#[]⟩ : ByteArray)] 31 (0, 0)) (by (with_reducible repeat (first | refine blk_drewN ?_ _ | refine blk_drew ?_ | refine blk_alloc ?_ _)); exact BK346.out)) : gb346 ≠ gb350)); have n6_ := Aside0.mk ((by rw [hg]; exact Nat.ne_of_gt (blk_lt (g := gb346) (o := .cells #[.int .i64 0, .int .i64 0, .int .i64 0, .int .i64 0, .int .i64 0, .string (⟨#[]⟩ : ByteArray)] 31 (0, 0)) (by (with_reducible repeat (first | refine blk_drewN ?_ _ | refine blk_drew ?_ | refine blk_alloc ?_ _)); exact BK346.out)) : gb350 ≠ gb346)); clear BK346; clear HB; have BK346 := n0_; have HB := n1_; have BK350 := n2_; have GW350 := n3_; have GE350 := n4_; have NB346_350 := n5_; have NB350_346 := n6_; clear n0_ n1_ n2_ n3_ n4_ n5_ n6_; clear hb hbox hg; have hnb63 := NB350_346.out; have hnc63 := NB346_350.out; have hcz64_0 : w62.cell? ⟨gb350, 0, none⟩ = some (.int .i64 0) := (blk_cell BK350.out 0).trans rfl; have hcz64_1 : w62.cell? ⟨gb350, 1, none⟩ = some (.int .i64 0) := (blk_cell BK350.out 1).trans rfl; have hcz64_2 : w62.cell? ⟨gb350, 2, none⟩ = some (.int .i64 0) := (blk_cell BK350.out 2).trans rfl; have hcz64_3 : w62.cell? ⟨gb350, 3, none⟩ = some (.int .i64 0) := (blk_cell BK350.out 3).trans rfl; have hcz64_4 : w62.cell? ⟨gb350, 4, none⟩ = some (.int .i64 0) := (blk_cell BK350.out 4).trans rfl; have hcz64_5 : w62.cell? ⟨gb350, 5, none⟩ = some (.string (⟨#[]⟩ : ByteArray)) := (blk_cell BK350.out 5).trans rfl; have hfz64_0 := blk_frozen BK350.out 0; have hfz64_1 := blk_frozen BK350.out 1; have hfz64_2 := blk_frozen BK350.out 2; have hfz64_3 := blk_frozen BK350.out 3; have hfz64_4 := blk_frozen BK350.out 4; have hfz64_5 := blk_frozen BK350.out 5; have hcz65_0 : w62.cell? ⟨gb346, 0, none⟩ = some (.int .i64 0) := (blk_cell BK346.out 0).trans rfl; have hcz65_1 : w62.cell? ⟨gb346, 1, none⟩ = some (.int .i64 0) := (blk_cell BK346.out 1).trans rfl; have hcz65_2 : w62.cell? ⟨gb346, 2, none⟩ = some (.int .i64 0) := (blk_cell BK346.out 2).trans rfl; have hcz65_3 : w62.cell? ⟨gb346, 3, none⟩ = some (.int .i64 0) := (blk_cell BK346.out 3).trans rfl; have hcz65_4 : w62.cell? ⟨gb346, 4, none⟩ = some (.int .i64 0) := (blk_cell BK346.out 4).trans rfl; have hcz65_5 : w62.cell? ⟨gb346, 5, none⟩ = some (.string (⟨#[]⟩ : ByteArray)) := (blk_cell BK346.out 5).trans rfl; have hfz65_0 := blk_frozen BK346.out 0; have hfz65_1 := blk_frozen BK346.out 1; have hfz65_2 := blk_frozen BK346.out 2; have hfz65_3 := blk_frozen BK346.out 3; have hfz65_4 := blk_frozen BK346.out 4; have hfz65_5 := blk_frozen BK346.out 5))
    refine bodyPost_ret (results_list (rs := [.cell 6 31, .tmp 7, .tmp 8, .tmp 9]) rfl (by simp) (.cell gb346 31 #[.int .i64 t347, .int .i64 0, .int .i64 0, .int .i64 0, .int .i64 0, .string (⟨#[]⟩ : ByteArray)] (0, 0) _ rfl (by (with_reducible repeat (first | refine blk_drewN ?_ _ | refine blk_drew ?_ | refine blk_alloc ?_ _)); refine blk_put (cs := #[.int .i64 t347, .int .i64 0, .int .i64 0, .int .i64 0, .int .i64 0, .string (⟨#[]⟩ : ByteArray)]) ?_ 5 _ rfl; (with_reducible repeat (first | refine blk_drewN ?_ _ | refine blk_drew ?_ | refine blk_alloc ?_ _)); refine blk_put (cs := #[.int .i64 t347, .int .i64 0, .int .i64 0, .int .i64 0, .int .i64 0, .string (⟨#[]⟩ : ByteArray)]) ?_ 4 _ rfl; (with_reducible repeat (first | refine blk_drewN ?_ _ | refine blk_drew ?_ | refine blk_alloc ?_ _)); refine blk_put (cs := #[.int .i64 t347, .int .i64 0, .int .i64 0, .int .i64 0, .int .i64 0, .string (⟨#[]⟩ : ByteArray)]) ?_ 3 _ rfl; (with_reducible repeat (first | refine blk_drewN ?_ _ | refine blk_drew ?_ | refine blk_alloc ?_ _)); refine blk_put (cs := #[.int .i64 t347, .int .i64 0, .int .i64 0, .int .i64 0, .int .i64 0, .string (⟨#[]⟩ : ByteArray)]) ?_ 2 _ rfl; (with_reducible repeat (first | refine blk_drewN ?_ _ | refine blk_drew ?_ | refine blk_alloc ?_ _)); refine blk_put (cs := #[.int .i64 t347, .int .i64 0, .int .i64 0, .int .i64 0, .int .i64 0, .string (⟨#[]⟩ : ByteArray)]) ?_ 1 _ rfl; (with_reducible repeat (first | refine blk_drewN ?_ _ | refine blk_drew ?_ | refine blk_alloc ?_ _)); refine blk_put (cs := #[.int .i64 0, .int .i64 0, .int .i64 0, .int .i64 0, .int .i64 0, .string (⟨#[]⟩ : ByteArray)]) ?_ 0 _ rfl; (with_reducible repeat (first | refine blk_drewN ?_ _ | refine blk_drew ?_ | refine blk_alloc ?_ _)); refine blk_far ?_ NB346_350.out _; (with_reducible repeat (first | refine blk_drewN ?_ _ | refine blk_drew ?_ | refine blk_alloc ?_ _)); refine blk_far ?_ NB346_350.out _; (with_reducible repeat (first | refine blk_drewN ?_ _ | refine blk_drew ?_ | refine blk_alloc ?_ _)); refine blk_far ?_ NB346_350.out _; (with_reducible repeat (first | refine blk_drewN ?_ _ | refine blk_drew ?_ | refine blk_alloc ?_ _)); refine blk_far ?_ NB346_350.out _; (with_reducible repeat (first | refine blk_drewN ?_ _ | refine blk_drew ?_ | refine blk_alloc ?_ _)); refine blk_far ?_ NB346_350.out _; (with_reducible repeat (first | refine blk_drewN ?_ _ | refine blk_drew ?_ | refine blk_alloc ?_ _)); refine blk_far ?_ NB346_350.out _; (with_reducible repeat (first | refine blk_drewN ?_ _ | refine blk_drew ?_ | refine blk_alloc ?_ _)); exact BK346.out) Try.underlying31 rfl (by kernel_rfl) (.tmp (.tmp (.tmp .nil))))) rfl ?_
    exact ⟨by first | rfl | (simp [errW_none, errW_some] <;> rfl) | (simp [*, errW_none, errW_some] <;> rfl), by repeat (first | (with_reducible first | exact HB.out | apply below_alloc | apply pw_below_drewN | apply below_drew1 | refine below_set ?_ GE346.out | refine below_set ?_ GE350.out) | exact HB.out)⟩

end Go.Proofs.Ytmeefdaanjaoaaa.M
