/- Printed by a program of this session (wip/tools), out of the translation: functions with the same answers as the Go code, and the contracts of the code. Lean checks it. -/
import Derived.Test.YtmeefdaanjaoaaaM0
import Derived.Test.YtmeefdaanjaoaaaM10
namespace Go.Proofs.Ytmeefdaanjaoaaa.M
open Go.RowKit Go.Proofs.YtmeefdaanjaoaaaW.PrintWords Go.Proofs.YtmeefdaanjaoaaaW.PrintLast Go.Proofs.YtmeefdaanjaoaaaW.PrintMore
attribute [local go_sem] max2_int min2_int max_two min_two max_three min_three max_four min_four   -- for this text's walks alone
set_option linter.unusedVariables false
set_option linter.unusedSimpArgs false

/-! ### wire_reader_status: function 36 -/
def wire_reader_status.f (s0_0 : ByteArray) (s0_1 : Int) (s0_2 : Int) (s0_3 : Int) : Option (Int × ByteArray × Int × Int × Int) := if s0_3 = 0 then (if s0_1 ≥ (s0_0.size : Int) then ((wire_reader_fail.f s0_0 s0_1 s0_2 s0_3 152).bind fun bt171 => (some (0, bt171.1, bt171.2.1, bt171.2.2.1, bt171.2.2.2))) else (if 0 ≤ s0_1 then (if s0_1 < (s0_0.size : Int) then (if (wrap64 (bt s0_0 s0_1)) < 128 then (if s0_2 = 0 then ((wire_reader_fail.f s0_0 s0_1 s0_2 s0_3 151).bind fun bt175 => (some (bt175.2.2.1, bt175.1, bt175.2.1, bt175.2.2.1, bt175.2.2.2))) else (some (s0_2, s0_0, s0_1, s0_2, s0_3))) else (if (wrap64 (bt s0_0 s0_1)) > 240 then (if (wrap64 (bt s0_0 s0_1)) = 247 then (some (wrap64 (bt s0_0 s0_1), s0_0, wrap64 (s0_1 + 1), s0_2, s0_3)) else (if (wrap64 (bt s0_0 s0_1)) = 255 then (some (wrap64 (bt s0_0 s0_1), s0_0, wrap64 (s0_1 + 1), s0_2, s0_3)) else ((wire_reader_fail.f s0_0 s0_1 s0_2 s0_3 151).bind fun bt179 => (some (wrap64 (bt s0_0 s0_1), bt179.1, wrap64 (bt179.2.1 + 1), bt179.2.2.1, bt179.2.2.2))))) else (some (wrap64 (bt s0_0 s0_1), s0_0, wrap64 (s0_1 + 1), s0_2, s0_3)))) else (none)) else (none))) else (some (0, s0_0, s0_1, s0_2, s0_3))
set_option maxHeartbeats 8000000 in
set_option maxRecDepth 100000 in
theorem wire_reader_status.calls (g : Nat) (s0_0 : ByteArray) (s0_1 : Int) (s0_2 : Int) (s0_3 : Int) (r1 : Int) (r2 : ByteArray) (r3 : Int) (r4 : Int) (r5 : Int) (w0 w : World) (hI : IsS50 w0 w g s0_0 s0_1 s0_2 s0_3) (hB : Below w0.heap.size w0 w) (h : wire_reader_status.f s0_0 s0_1 s0_2 s0_3 = some (r1, r2, r3, r4, r5)) :
    Calls Try.prog 36 #[.pointer (some ⟨g, 0, none⟩)] w fun e w' => e = .returned (.int .i64 r1) ∧ IsS50 w0 w' g r2 r3 r4 r5 ∧ Below w0.heap.size w0 w' ∧ KeepBut w w' g none := by
  have HI0 := Aside0.mk hI
  have HK := Aside0.mk (KeepBut.refl w g none)
  have HL := Aside0.mk hB.size
  clear hI
  have HW0 := Aside0.mk hB.size
  have HB := Aside0.mk hB
  clear hB
  have H : (if s0_3 = 0 then (if s0_1 ≥ (s0_0.size : Int) then ((wire_reader_fail.f s0_0 s0_1 s0_2 s0_3 152).bind fun bt171 => (some (0, bt171.1, bt171.2.1, bt171.2.2.1, bt171.2.2.2))) else (if 0 ≤ s0_1 then (if s0_1 < (s0_0.size : Int) then (if (wrap64 (bt s0_0 s0_1)) < 128 then (if s0_2 = 0 then ((wire_reader_fail.f s0_0 s0_1 s0_2 s0_3 151).bind fun bt175 => (some (bt175.2.2.1, bt175.1, bt175.2.1, bt175.2.2.1, bt175.2.2.2))) else (some (s0_2, s0_0, s0_1, s0_2, s0_3))) else (if (wrap64 (bt s0_0 s0_1)) > 240 then (if (wrap64 (bt s0_0 s0_1)) = 247 then (some (wrap64 (bt s0_0 s0_1), s0_0, wrap64 (s0_1 + 1), s0_2, s0_3)) else (if (wrap64 (bt s0_0 s0_1)) = 255 then (some (wrap64 (bt s0_0 s0_1), s0_0, wrap64 (s0_1 + 1), s0_2, s0_3)) else ((wire_reader_fail.f s0_0 s0_1 s0_2 s0_3 151).bind fun bt179 => (some (wrap64 (bt s0_0 s0_1), bt179.1, wrap64 (bt179.2.1 + 1), bt179.2.2.1, bt179.2.2.2))))) else (some (wrap64 (bt s0_0 s0_1), s0_0, wrap64 (s0_1 + 1), s0_2, s0_3)))) else (none)) else (none))) else (some (0, s0_0, s0_1, s0_2, s0_3))) = some (r1, r2, r3, r4, r5) := h
  clear h
  by_cases c2 : s0_3 = 0
  · rw [if_pos c2] at H
    have c2b0 : (s0_3 == 0) = true := beq_iff_eq.mpr c2
    have c2b1 : (s0_3 != 0) = false := bne_eq_false_iff_eq.mpr c2
    clear c2
    by_cases c3 : s0_1 ≥ (s0_0.size : Int)
    · rw [if_pos c3] at H
      have c3b0 : decide ((s0_0.size : Int) ≤ s0_1) = true := decide_eq_true c3
      clear c3
      replace H := Option.bind_eq_some_iff.mp H
      obtain ⟨⟨t171, t172, t173, t174⟩, A40, H⟩ := H
      replace H : (some (0, t171, t172, t173, t174)) = some (r1, r2, r3, r4, r5) := H
      have A4 := Aside0.mk A40
      clear A40
      simp only [Option.some.injEq, Prod.mk.injEq] at H
      obtain ⟨rfl, rfl, rfl, rfl, rfl⟩ := H
      obtain ⟨HGz5, hgz5⟩ := HI0.out
      have hcz5_0 := cellS50_0 HGz5
      have hcz5_1 := cellS50_1 HGz5
      have hcz5_2 := cellS50_2 HGz5
      have hcz5_3 := cellS50_3 HGz5
      have hfz5_0 := blk_frozen HGz5 0
      have hfz5_1 := blk_frozen HGz5 1
      have hfz5_2 := blk_frozen HGz5 2
      have hfz5_3 := blk_frozen HGz5 3
      clear HGz5 hgz5
      go_enter Try.func36, Try.ntmps36
      go_wp2_with (first | (go_at_call 41; (with_reducible refine (wire_reader_fail.calls g s0_0 s0_1 s0_2 s0_3 152 t171 t172 t173 t174 w0 _ ?side1 ?side2 A4.out).mono ?_); (case side1 => repeat (first | (with_reducible first | exact HI0.out | apply IsS50.alloc | apply IsS50.drewN | apply IsS50.drew | apply IsS50.set_0 | apply IsS50.set_1 | apply IsS50.set_2 | apply IsS50.set_3) | exact HI0.out)); (case side2 => repeat (first | (with_reducible first | exact HB.out | apply below_alloc | apply pw_below_drewN | apply below_drew1 | refine below_set ?_ (IsS50.ge HI0.out)) | exact HB.out)); rintro e w6 ⟨rfl, hi, hb, hk⟩; have n0_ := Aside0.mk (KeepBut.trans (by repeat (first | (with_reducible first | exact HK.out | apply KeepBut.set_ | apply keep_drewN | apply keep_drew | apply keep_alloc) | exact HK.out)) hk (.inl rfl)); have n1_ := Aside0.mk (hb); have n2_ := Aside0.mk (hi); clear HK; clear HB; clear HI0; have HK := n0_; have HB := n1_; have HI0 := n2_; clear n0_ n1_ n2_; (try clear hb); (try clear hb2); (try clear hk); (try clear hi)))
      repeat (go_quiet (first | (go_at_call 41; (with_reducible refine (wire_reader_fail.calls g s0_0 s0_1 s0_2 s0_3 152 t171 t172 t173 t174 w0 _ ?side1 ?side2 A4.out).mono ?_); (case side1 => repeat (first | (with_reducible first | exact HI0.out | apply IsS50.alloc | apply IsS50.drewN | apply IsS50.drew | apply IsS50.set_0 | apply IsS50.set_1 | apply IsS50.set_2 | apply IsS50.set_3) | exact HI0.out)); (case side2 => repeat (first | (with_reducible first | exact HB.out | apply below_alloc | apply pw_below_drewN | apply below_drew1 | refine below_set ?_ (IsS50.ge HI0.out)) | exact HB.out)); rintro e w6 ⟨rfl, hi, hb, hk⟩; have n0_ := Aside0.mk (KeepBut.trans (by repeat (first | (with_reducible first | exact HK.out | apply KeepBut.set_ | apply keep_drewN | apply keep_drew | apply keep_alloc) | exact HK.out)) hk (.inl rfl)); have n1_ := Aside0.mk (hb); have n2_ := Aside0.mk (hi); clear HK; clear HB; clear HI0; have HK := n0_; have HB := n1_; have HI0 := n2_; clear n0_ n1_ n2_; (try clear hb); (try clear hb2); (try clear hk); (try clear hi))); try go_wp2_with (first | (go_at_call 41; (with_reducible refine (wire_reader_fail.calls g s0_0 s0_1 s0_2 s0_3 152 t171 t172 t173 t174 w0 _ ?side1 ?side2 A4.out).mono ?_); (case side1 => repeat (first | (with_reducible first | exact HI0.out | apply IsS50.alloc | apply IsS50.drewN | apply IsS50.drew | apply IsS50.set_0 | apply IsS50.set_1 | apply IsS50.set_2 | apply IsS50.set_3) | exact HI0.out)); (case side2 => repeat (first | (with_reducible first | exact HB.out | apply below_alloc | apply pw_below_drewN | apply below_drew1 | refine below_set ?_ (IsS50.ge HI0.out)) | exact HB.out)); rintro e w6 ⟨rfl, hi, hb, hk⟩; have n0_ := Aside0.mk (KeepBut.trans (by repeat (first | (with_reducible first | exact HK.out | apply KeepBut.set_ | apply keep_drewN | apply keep_drew | apply keep_alloc) | exact HK.out)) hk (.inl rfl)); have n1_ := Aside0.mk (hb); have n2_ := Aside0.mk (hi); clear HK; clear HB; clear HI0; have HK := n0_; have HB := n1_; have HI0 := n2_; clear n0_ n1_ n2_; (try clear hb); (try clear hb2); (try clear hk); (try clear hi))))
      go_ret
      exact ⟨by first | rfl | (simp [errW_none, errW_some] <;> rfl) | (simp [*, errW_none, errW_some] <;> rfl), by repeat (first | (with_reducible first | exact HI0.out | apply IsS50.alloc | apply IsS50.drewN | apply IsS50.drew | apply IsS50.set_0 | apply IsS50.set_1 | apply IsS50.set_2 | apply IsS50.set_3) | exact HI0.out), by repeat (first | (with_reducible first | exact HB.out | apply below_alloc | apply pw_below_drewN | apply below_drew1 | refine below_set ?_ (IsS50.ge HI0.out)) | exact HB.out), by repeat (first | (with_reducible first | exact HK.out | apply KeepBut.set_ | apply keep_drewN | apply keep_drew | apply keep_alloc) | exact HK.out)⟩
    · rw [if_neg c3] at H
      have c3b0 : decide ((s0_0.size : Int) ≤ s0_1) = false := decide_eq_false c3
      clear c3
      by_cases c7 : 0 ≤ s0_1
      · rw [if_pos c7] at H
        have c7b0 : decide (0 ≤ s0_1) = true := decide_eq_true c7
        clear c7
        by_cases c8 : s0_1 < (s0_0.size : Int)
        · rw [if_pos c8] at H
          have c8b0 : decide (s0_1 < (s0_0.size : Int)) = true := decide_eq_true c8
          clear c8
          by_cases c10 : (wrap64 (bt s0_0 s0_1)) < 128
          · rw [if_pos c10] at H
            have c10b0 : decide ((wrap64 (bt s0_0 s0_1)) < 128) = true := decide_eq_true c10
            clear c10
            by_cases c11 : s0_2 = 0
            · rw [if_pos c11] at H
              have c11b0 : (s0_2 == 0) = true := beq_iff_eq.mpr c11
              have c11b1 : (s0_2 != 0) = false := bne_eq_false_iff_eq.mpr c11
              clear c11
              replace H := Option.bind_eq_some_iff.mp H
              obtain ⟨⟨t175, t176, t177, t178⟩, A120, H⟩ := H
              replace H : (some (t177, t175, t176, t177, t178)) = some (r1, r2, r3, r4, r5) := H
              have A12 := Aside0.mk A120
              clear A120
              simp only [Option.some.injEq, Prod.mk.injEq] at H
              obtain ⟨rfl, rfl, rfl, rfl, rfl⟩ := H
              obtain ⟨HGz13, hgz13⟩ := HI0.out
              have hcz13_0 := cellS50_0 HGz13
              have hcz13_1 := cellS50_1 HGz13
              have hcz13_2 := cellS50_2 HGz13
              have hcz13_3 := cellS50_3 HGz13
              have hfz13_0 := blk_frozen HGz13 0
              have hfz13_1 := blk_frozen HGz13 1
              have hfz13_2 := blk_frozen HGz13 2
              have hfz13_3 := blk_frozen HGz13 3
              clear HGz13 hgz13
              have p9 : 0 ≤ (s0_1 : Int) := of_decide_eq_true (by first | (with_reducible assumption) | assumption)
              have q9 : s0_1 < (s0_0.size : Int) := of_decide_eq_true (by first | (with_reducible assumption) | assumption)
              have hx9 := bt_at s0_0 s0_1
              replace p9 := eq_true p9
              replace q9 := eq_true q9
              go_enter Try.func36, Try.ntmps36
              go_wp2_with (first | (go_at_call 41; (with_reducible refine (wire_reader_fail.calls g s0_0 s0_1 s0_2 s0_3 151 t175 t176 t177 t178 w0 _ ?side1 ?side2 A12.out).mono ?_); (case side1 => repeat (first | (with_reducible first | exact HI0.out | apply IsS50.alloc | apply IsS50.drewN | apply IsS50.drew | apply IsS50.set_0 | apply IsS50.set_1 | apply IsS50.set_2 | apply IsS50.set_3) | exact HI0.out)); (case side2 => repeat (first | (with_reducible first | exact HB.out | apply below_alloc | apply pw_below_drewN | apply below_drew1 | refine below_set ?_ (IsS50.ge HI0.out)) | exact HB.out)); rintro e w14 ⟨rfl, hi, hb, hk⟩; have n0_ := Aside0.mk (KeepBut.trans (by repeat (first | (with_reducible first | exact HK.out | apply KeepBut.set_ | apply keep_drewN | apply keep_drew | apply keep_alloc) | exact HK.out)) hk (.inl rfl)); have n1_ := Aside0.mk (hb); have n2_ := Aside0.mk (hi); clear HK; clear HB; clear HI0; have HK := n0_; have HB := n1_; have HI0 := n2_; clear n0_ n1_ n2_; (try clear hb); (try clear hb2); (try clear hk); (try clear hi); obtain ⟨HGz15, hgz15⟩ := HI0.out; have hcz15_0 := cellS50_0 HGz15; have hcz15_1 := cellS50_1 HGz15; have hcz15_2 := cellS50_2 HGz15; have hcz15_3 := cellS50_3 HGz15; have hfz15_0 := blk_frozen HGz15 0; have hfz15_1 := blk_frozen HGz15 1; have hfz15_2 := blk_frozen HGz15 2; have hfz15_3 := blk_frozen HGz15 3; clear HGz15 hgz15))
              repeat (go_quiet (first | (go_at_call 41; (with_reducible refine (wire_reader_fail.calls g s0_0 s0_1 s0_2 s0_3 151 t175 t176 t177 t178 w0 _ ?side1 ?side2 A12.out).mono ?_); (case side1 => repeat (first | (with_reducible first | exact HI0.out | apply IsS50.alloc | apply IsS50.drewN | apply IsS50.drew | apply IsS50.set_0 | apply IsS50.set_1 | apply IsS50.set_2 | apply IsS50.set_3) | exact HI0.out)); (case side2 => repeat (first | (with_reducible first | exact HB.out | apply below_alloc | apply pw_below_drewN | apply below_drew1 | refine below_set ?_ (IsS50.ge HI0.out)) | exact HB.out)); rintro e w14 ⟨rfl, hi, hb, hk⟩; have n0_ := Aside0.mk (KeepBut.trans (by repeat (first | (with_reducible first | exact HK.out | apply KeepBut.set_ | apply keep_drewN | apply keep_drew | apply keep_alloc) | exact HK.out)) hk (.inl rfl)); have n1_ := Aside0.mk (hb); have n2_ := Aside0.mk (hi); clear HK; clear HB; clear HI0; have HK := n0_; have HB := n1_; have HI0 := n2_; clear n0_ n1_ n2_; (try clear hb); (try clear hb2); (try clear hk); (try clear hi); obtain ⟨HGz15, hgz15⟩ := HI0.out; have hcz15_0 := cellS50_0 HGz15; have hcz15_1 := cellS50_1 HGz15; have hcz15_2 := cellS50_2 HGz15; have hcz15_3 := cellS50_3 HGz15; have hfz15_0 := blk_frozen HGz15 0; have hfz15_1 := blk_frozen HGz15 1; have hfz15_2 := blk_frozen HGz15 2; have hfz15_3 := blk_frozen HGz15 3; clear HGz15 hgz15)); try go_wp2_with (first | (go_at_call 41; (with_reducible refine (wire_reader_fail.calls g s0_0 s0_1 s0_2 s0_3 151 t175 t176 t177 t178 w0 _ ?side1 ?side2 A12.out).mono ?_); (case side1 => repeat (first | (with_reducible first | exact HI0.out | apply IsS50.alloc | apply IsS50.drewN | apply IsS50.drew | apply IsS50.set_0 | apply IsS50.set_1 | apply IsS50.set_2 | apply IsS50.set_3) | exact HI0.out)); (case side2 => repeat (first | (with_reducible first | exact HB.out | apply below_alloc | apply pw_below_drewN | apply below_drew1 | refine below_set ?_ (IsS50.ge HI0.out)) | exact HB.out)); rintro e w14 ⟨rfl, hi, hb, hk⟩; have n0_ := Aside0.mk (KeepBut.trans (by repeat (first | (with_reducible first | exact HK.out | apply KeepBut.set_ | apply keep_drewN | apply keep_drew | apply keep_alloc) | exact HK.out)) hk (.inl rfl)); have n1_ := Aside0.mk (hb); have n2_ := Aside0.mk (hi); clear HK; clear HB; clear HI0; have HK := n0_; have HB := n1_; have HI0 := n2_; clear n0_ n1_ n2_; (try clear hb); (try clear hb2); (try clear hk); (try clear hi); obtain ⟨HGz15, hgz15⟩ := HI0.out; have hcz15_0 := cellS50_0 HGz15; have hcz15_1 := cellS50_1 HGz15; have hcz15_2 := cellS50_2 HGz15; have hcz15_3 := cellS50_3 HGz15; have hfz15_0 := blk_frozen HGz15 0; have hfz15_1 := blk_frozen HGz15 1; have hfz15_2 := blk_frozen HGz15 2; have hfz15_3 := blk_frozen HGz15 3; clear HGz15 hgz15)))
              go_ret
              exact ⟨by first | rfl | (simp [errW_none, errW_some] <;> rfl) | (simp [*, errW_none, errW_some] <;> rfl), by repeat (first | (with_reducible first | exact HI0.out | apply IsS50.alloc | apply IsS50.drewN | apply IsS50.drew | apply IsS50.set_0 | apply IsS50.set_1 | apply IsS50.set_2 | apply IsS50.set_3) | exact HI0.out), by repeat (first | (with_reducible first | exact HB.out | apply below_alloc | apply pw_below_drewN | apply below_drew1 | refine below_set ?_ (IsS50.ge HI0.out)) | exact HB.out), by repeat (first | (with_reducible first | exact HK.out | apply KeepBut.set_ | apply keep_drewN | apply keep_drew | apply keep_alloc) | exact HK.out)⟩
            · rw [if_neg c11] at H
              have c11b0 : (s0_2 == 0) = false := beq_eq_false_iff_ne.mpr c11
              have c11b1 : (s0_2 != 0) = true := bne_iff_ne.mpr c11
              simp only [Option.some.injEq, Prod.mk.injEq] at H
              obtain ⟨rfl, rfl, rfl, rfl, rfl⟩ := H
              obtain ⟨HGz16, hgz16⟩ := HI0.out
              have hcz16_0 := cellS50_0 HGz16
              have hcz16_1 := cellS50_1 HGz16
              have hcz16_2 := cellS50_2 HGz16
              have hcz16_3 := cellS50_3 HGz16
              have hfz16_0 := blk_frozen HGz16 0
              have hfz16_1 := blk_frozen HGz16 1
              have hfz16_2 := blk_frozen HGz16 2
              have hfz16_3 := blk_frozen HGz16 3
              clear HGz16 hgz16
              have p9 : 0 ≤ (s0_1 : Int) := of_decide_eq_true (by first | (with_reducible assumption) | assumption)
              have q9 : s0_1 < (s0_0.size : Int) := of_decide_eq_true (by first | (with_reducible assumption) | assumption)
              have hx9 := bt_at s0_0 s0_1
              replace p9 := eq_true p9
              replace q9 := eq_true q9
              go_enter Try.func36, Try.ntmps36
              go_wp2
              repeat (go_quiet (fail); try go_wp2)
              go_ret
              exact ⟨by first | rfl | (simp [errW_none, errW_some] <;> rfl) | (simp [*, errW_none, errW_some] <;> rfl), by repeat (first | (with_reducible first | exact HI0.out | apply IsS50.alloc | apply IsS50.drewN | apply IsS50.drew | apply IsS50.set_0 | apply IsS50.set_1 | apply IsS50.set_2 | apply IsS50.set_3) | exact HI0.out), by repeat (first | (with_reducible first | exact HB.out | apply below_alloc | apply pw_below_drewN | apply below_drew1 | refine below_set ?_ (IsS50.ge HI0.out)) | exact HB.out), by repeat (first | (with_reducible first | exact HK.out | apply KeepBut.set_ | apply keep_drewN | apply keep_drew | apply keep_alloc) | exact HK.out)⟩
          · rw [if_neg c10] at H
            have c10b0 : decide ((wrap64 (bt s0_0 s0_1)) < 128) = false := decide_eq_false c10
            clear c10
            by_cases c17 : (wrap64 (bt s0_0 s0_1)) > 240
            · rw [if_pos c17] at H
              have c17b0 : decide (240 < (wrap64 (bt s0_0 s0_1))) = true := decide_eq_true c17
              clear c17
              by_cases c18 : (wrap64 (bt s0_0 s0_1)) = 247
              · rw [if_pos c18] at H
                have c18b0 : ((wrap64 (bt s0_0 s0_1)) == 247) = true := beq_iff_eq.mpr c18
                have c18b1 : ((wrap64 (bt s0_0 s0_1)) != 247) = false := bne_eq_false_iff_eq.mpr c18
                clear c18
                simp only [Option.some.injEq, Prod.mk.injEq] at H
                obtain ⟨rfl, rfl, rfl, rfl, rfl⟩ := H
                obtain ⟨HGz19, hgz19⟩ := HI0.out
                have hcz19_0 := cellS50_0 HGz19
                have hcz19_1 := cellS50_1 HGz19
                have hcz19_2 := cellS50_2 HGz19
                have hcz19_3 := cellS50_3 HGz19
                have hfz19_0 := blk_frozen HGz19 0
                have hfz19_1 := blk_frozen HGz19 1
                have hfz19_2 := blk_frozen HGz19 2
                have hfz19_3 := blk_frozen HGz19 3
                clear HGz19 hgz19
                have p9 : 0 ≤ (s0_1 : Int) := of_decide_eq_true (by first | (with_reducible assumption) | assumption)
                have q9 : s0_1 < (s0_0.size : Int) := of_decide_eq_true (by first | (with_reducible assumption) | assumption)
                have hx9 := bt_at s0_0 s0_1
                replace p9 := eq_true p9
                replace q9 := eq_true q9
                go_enter Try.func36, Try.ntmps36
                go_wp2
                repeat (go_quiet (fail); try go_wp2)
                go_ret
                exact ⟨by first | rfl | (simp [errW_none, errW_some] <;> rfl) | (simp [*, errW_none, errW_some] <;> rfl), by repeat (first | (with_reducible first | exact HI0.out | apply IsS50.alloc | apply IsS50.drewN | apply IsS50.drew | apply IsS50.set_0 | apply IsS50.set_1 | apply IsS50.set_2 | apply IsS50.set_3) | exact HI0.out), by repeat (first | (with_reducible first | exact HB.out | apply below_alloc | apply pw_below_drewN | apply below_drew1 | refine below_set ?_ (IsS50.ge HI0.out)) | exact HB.out), by repeat (first | (with_reducible first | exact HK.out | apply KeepBut.set_ | apply keep_drewN | apply keep_drew | apply keep_alloc) | exact HK.out)⟩
              · rw [if_neg c18] at H
                have c18b0 : ((wrap64 (bt s0_0 s0_1)) == 247) = false := beq_eq_false_iff_ne.mpr c18
                have c18b1 : ((wrap64 (bt s0_0 s0_1)) != 247) = true := bne_iff_ne.mpr c18
                by_cases c20 : (wrap64 (bt s0_0 s0_1)) = 255
                · rw [if_pos c20] at H
                  have c20b0 : ((wrap64 (bt s0_0 s0_1)) == 255) = true := beq_iff_eq.mpr c20
                  have c20b1 : ((wrap64 (bt s0_0 s0_1)) != 255) = false := bne_eq_false_iff_eq.mpr c20
                  clear c20
                  simp only [Option.some.injEq, Prod.mk.injEq] at H
                  obtain ⟨rfl, rfl, rfl, rfl, rfl⟩ := H
                  obtain ⟨HGz21, hgz21⟩ := HI0.out
                  have hcz21_0 := cellS50_0 HGz21
                  have hcz21_1 := cellS50_1 HGz21
                  have hcz21_2 := cellS50_2 HGz21
                  have hcz21_3 := cellS50_3 HGz21
                  have hfz21_0 := blk_frozen HGz21 0
                  have hfz21_1 := blk_frozen HGz21 1
                  have hfz21_2 := blk_frozen HGz21 2
                  have hfz21_3 := blk_frozen HGz21 3
                  clear HGz21 hgz21
                  have p9 : 0 ≤ (s0_1 : Int) := of_decide_eq_true (by first | (with_reducible assumption) | assumption)
                  have q9 : s0_1 < (s0_0.size : Int) := of_decide_eq_true (by first | (with_reducible assumption) | assumption)
                  have hx9 := bt_at s0_0 s0_1
                  replace p9 := eq_true p9
                  replace q9 := eq_true q9
                  go_enter Try.func36, Try.ntmps36
                  go_wp2
                  repeat (go_quiet (fail); try go_wp2)
                  go_ret
                  exact ⟨by first | rfl | (simp [errW_none, errW_some] <;> rfl) | (simp [*, errW_none, errW_some] <;> rfl), by repeat (first | (with_reducible first | exact HI0.out | apply IsS50.alloc | apply IsS50.drewN | apply IsS50.drew | apply IsS50.set_0 | apply IsS50.set_1 | apply IsS50.set_2 | apply IsS50.set_3) | exact HI0.out), by repeat (first | (with_reducible first | exact HB.out | apply below_alloc | apply pw_below_drewN | apply below_drew1 | refine below_set ?_ (IsS50.ge HI0.out)) | exact HB.out), by repeat (first | (with_reducible first | exact HK.out | apply KeepBut.set_ | apply keep_drewN | apply keep_drew | apply keep_alloc) | exact HK.out)⟩
                · rw [if_neg c20] at H
                  have c20b0 : ((wrap64 (bt s0_0 s0_1)) == 255) = false := beq_eq_false_iff_ne.mpr c20
                  have c20b1 : ((wrap64 (bt s0_0 s0_1)) != 255) = true := bne_iff_ne.mpr c20
                  replace H := Option.bind_eq_some_iff.mp H
                  obtain ⟨⟨t179, t180, t181, t182⟩, A220, H⟩ := H
                  replace H : (some (wrap64 (bt s0_0 s0_1), t179, wrap64 (t180 + 1), t181, t182)) = some (r1, r2, r3, r4, r5) := H
                  have A22 := Aside0.mk A220
                  clear A220
                  simp only [Option.some.injEq, Prod.mk.injEq] at H
                  obtain ⟨rfl, rfl, rfl, rfl, rfl⟩ := H
                  obtain ⟨HGz23, hgz23⟩ := HI0.out
                  have hcz23_0 := cellS50_0 HGz23
                  have hcz23_1 := cellS50_1 HGz23
                  have hcz23_2 := cellS50_2 HGz23
                  have hcz23_3 := cellS50_3 HGz23
                  have hfz23_0 := blk_frozen HGz23 0
                  have hfz23_1 := blk_frozen HGz23 1
                  have hfz23_2 := blk_frozen HGz23 2
                  have hfz23_3 := blk_frozen HGz23 3
                  clear HGz23 hgz23
                  have p9 : 0 ≤ (s0_1 : Int) := of_decide_eq_true (by first | (with_reducible assumption) | assumption)
                  have q9 : s0_1 < (s0_0.size : Int) := of_decide_eq_true (by first | (with_reducible assumption) | assumption)
                  have hx9 := bt_at s0_0 s0_1
                  replace p9 := eq_true p9
                  replace q9 := eq_true q9
                  go_enter Try.func36, Try.ntmps36
                  go_wp2_with (first | (go_at_call 41; (with_reducible refine (wire_reader_fail.calls g s0_0 s0_1 s0_2 s0_3 151 t179 t180 t181 t182 w0 _ ?side1 ?side2 A22.out).mono ?_); (case side1 => repeat (first | (with_reducible first | exact HI0.out | apply IsS50.alloc | apply IsS50.drewN | apply IsS50.drew | apply IsS50.set_0 | apply IsS50.set_1 | apply IsS50.set_2 | apply IsS50.set_3) | exact HI0.out)); (case side2 => repeat (first | (with_reducible first | exact HB.out | apply below_alloc | apply pw_below_drewN | apply below_drew1 | refine below_set ?_ (IsS50.ge HI0.out)) | exact HB.out)); rintro e w24 ⟨rfl, hi, hb, hk⟩; have n0_ := Aside0.mk (KeepBut.trans (by repeat (first | (with_reducible first | exact HK.out | apply KeepBut.set_ | apply keep_drewN | apply keep_drew | apply keep_alloc) | exact HK.out)) hk (.inl rfl)); have n1_ := Aside0.mk (hb); have n2_ := Aside0.mk (hi); clear HK; clear HB; clear HI0; have HK := n0_; have HB := n1_; have HI0 := n2_; clear n0_ n1_ n2_; (try clear hb); (try clear hb2); (try clear hk); (try clear hi); obtain ⟨HGz25, hgz25⟩ := HI0.out; have hcz25_0 := cellS50_0 HGz25; have hcz25_1 := cellS50_1 HGz25; have hcz25_2 := cellS50_2 HGz25; have hcz25_3 := cellS50_3 HGz25; have hfz25_0 := blk_frozen HGz25 0; have hfz25_1 := blk_frozen HGz25 1; have hfz25_2 := blk_frozen HGz25 2; have hfz25_3 := blk_frozen HGz25 3; clear HGz25 hgz25))
                  repeat (go_quiet (first | (go_at_call 41; (with_reducible refine (wire_reader_fail.calls g s0_0 s0_1 s0_2 s0_3 151 t179 t180 t181 t182 w0 _ ?side1 ?side2 A22.out).mono ?_); (case side1 => repeat (first | (with_reducible first | exact HI0.out | apply IsS50.alloc | apply IsS50.drewN | apply IsS50.drew | apply IsS50.set_0 | apply IsS50.set_1 | apply IsS50.set_2 | apply IsS50.set_3) | exact HI0.out)); (case side2 => repeat (first | (with_reducible first | exact HB.out | apply below_alloc | apply pw_below_drewN | apply below_drew1 | refine below_set ?_ (IsS50.ge HI0.out)) | exact HB.out)); rintro e w24 ⟨rfl, hi, hb, hk⟩; have n0_ := Aside0.mk (KeepBut.trans (by repeat (first | (with_reducible first | exact HK.out | apply KeepBut.set_ | apply keep_drewN | apply keep_drew | apply keep_alloc) | exact HK.out)) hk (.inl rfl)); have n1_ := Aside0.mk (hb); have n2_ := Aside0.mk (hi); clear HK; clear HB; clear HI0; have HK := n0_; have HB := n1_; have HI0 := n2_; clear n0_ n1_ n2_; (try clear hb); (try clear hb2); (try clear hk); (try clear hi); obtain ⟨HGz25, hgz25⟩ := HI0.out; have hcz25_0 := cellS50_0 HGz25; have hcz25_1 := cellS50_1 HGz25; have hcz25_2 := cellS50_2 HGz25; have hcz25_3 := cellS50_3 HGz25; have hfz25_0 := blk_frozen HGz25 0; have hfz25_1 := blk_frozen HGz25 1; have hfz25_2 := blk_frozen HGz25 2; have hfz25_3 := blk_frozen HGz25 3; clear HGz25 hgz25)); try go_wp2_with (first | (go_at_call 41; (with_reducible refine (wire_reader_fail.calls g s0_0 s0_1 s0_2 s0_3 151 t179 t180 t181 t182 w0 _ ?side1 ?side2 A22.out).mono ?_); (case side1 => repeat (first | (with_reducible first | exact HI0.out | apply IsS50.alloc | apply IsS50.drewN | apply IsS50.drew | apply IsS50.set_0 | apply IsS50.set_1 | apply IsS50.set_2 | apply IsS50.set_3) | exact HI0.out)); (case side2 => repeat (first | (with_reducible first | exact HB.out | apply below_alloc | apply pw_below_drewN | apply below_drew1 | refine below_set ?_ (IsS50.ge HI0.out)) | exact HB.out)); rintro e w24 ⟨rfl, hi, hb, hk⟩; have n0_ := Aside0.mk (KeepBut.trans (by repeat (first | (with_reducible first | exact HK.out | apply KeepBut.set_ | apply keep_drewN | apply keep_drew | apply keep_alloc) | exact HK.out)) hk (.inl rfl)); have n1_ := Aside0.mk (hb); have n2_ := Aside0.mk (hi); clear HK; clear HB; clear HI0; have HK := n0_; have HB := n1_; have HI0 := n2_; clear n0_ n1_ n2_; (try clear hb); (try clear hb2); (try clear hk); (try clear hi); obtain ⟨HGz25, hgz25⟩ := HI0.out; have hcz25_0 := cellS50_0 HGz25; have hcz25_1 := cellS50_1 HGz25; have hcz25_2 := cellS50_2 HGz25; have hcz25_3 := cellS50_3 HGz25; have hfz25_0 := blk_frozen HGz25 0; have hfz25_1 := blk_frozen HGz25 1; have hfz25_2 := blk_frozen HGz25 2; have hfz25_3 := blk_frozen HGz25 3; clear HGz25 hgz25)))
                  go_ret
                  exact ⟨by first | rfl | (simp [errW_none, errW_some] <;> rfl) | (simp [*, errW_none, errW_some] <;> rfl), by repeat (first | (with_reducible first | exact HI0.out | apply IsS50.alloc | apply IsS50.drewN | apply IsS50.drew | apply IsS50.set_0 | apply IsS50.set_1 | apply IsS50.set_2 | apply IsS50.set_3) | exact HI0.out), by repeat (first | (with_reducible first | exact HB.out | apply below_alloc | apply pw_below_drewN | apply below_drew1 | refine below_set ?_ (IsS50.ge HI0.out)) | exact HB.out), by repeat (first | (with_reducible first | exact HK.out | apply KeepBut.set_ | apply keep_drewN | apply keep_drew | apply keep_alloc) | exact HK.out)⟩
            · rw [if_neg c17] at H
              have c17b0 : decide (240 < (wrap64 (bt s0_0 s0_1))) = false := decide_eq_false c17
              clear c17
              simp only [Option.some.injEq, Prod.mk.injEq] at H
              obtain ⟨rfl, rfl, rfl, rfl, rfl⟩ := H
              obtain ⟨HGz26, hgz26⟩ := HI0.out
              have hcz26_0 := cellS50_0 HGz26
              have hcz26_1 := cellS50_1 HGz26
              have hcz26_2 := cellS50_2 HGz26
              have hcz26_3 := cellS50_3 HGz26
              have hfz26_0 := blk_frozen HGz26 0
              have hfz26_1 := blk_frozen HGz26 1
              have hfz26_2 := blk_frozen HGz26 2
              have hfz26_3 := blk_frozen HGz26 3
              clear HGz26 hgz26
              have p9 : 0 ≤ (s0_1 : Int) := of_decide_eq_true (by first | (with_reducible assumption) | assumption)
              have q9 : s0_1 < (s0_0.size : Int) := of_decide_eq_true (by first | (with_reducible assumption) | assumption)
              have hx9 := bt_at s0_0 s0_1
              replace p9 := eq_true p9
              replace q9 := eq_true q9
              go_enter Try.func36, Try.ntmps36
              go_wp2
              repeat (go_quiet (fail); try go_wp2)
              go_ret
              exact ⟨by first | rfl | (simp [errW_none, errW_some] <;> rfl) | (simp [*, errW_none, errW_some] <;> rfl), by repeat (first | (with_reducible first | exact HI0.out | apply IsS50.alloc | apply IsS50.drewN | apply IsS50.drew | apply IsS50.set_0 | apply IsS50.set_1 | apply IsS50.set_2 | apply IsS50.set_3) | exact HI0.out), by repeat (first | (with_reducible first | exact HB.out | apply below_alloc | apply pw_below_drewN | apply below_drew1 | refine below_set ?_ (IsS50.ge HI0.out)) | exact HB.out), by repeat (first | (with_reducible first | exact HK.out | apply KeepBut.set_ | apply keep_drewN | apply keep_drew | apply keep_alloc) | exact HK.out)⟩
        · rw [if_neg c8] at H
          exact absurd H (by simp)
      · rw [if_neg c7] at H
        exact absurd H (by simp)
  · rw [if_neg c2] at H
    have c2b0 : (s0_3 == 0) = false := beq_eq_false_iff_ne.mpr c2
    have c2b1 : (s0_3 != 0) = true := bne_iff_ne.mpr c2
    simp only [Option.some.injEq, Prod.mk.injEq] at H
    obtain ⟨rfl, rfl, rfl, rfl, rfl⟩ := H
    obtain ⟨HGz27, hgz27⟩ := HI0.out
    have hcz27_0 := cellS50_0 HGz27
    have hcz27_1 := cellS50_1 HGz27
    have hcz27_2 := cellS50_2 HGz27
    have hcz27_3 := cellS50_3 HGz27
    have hfz27_0 := blk_frozen HGz27 0
    have hfz27_1 := blk_frozen HGz27 1
    have hfz27_2 := blk_frozen HGz27 2
    have hfz27_3 := blk_frozen HGz27 3
    clear HGz27 hgz27
    go_enter Try.func36, Try.ntmps36
    go_wp2
    repeat (go_quiet (fail); try go_wp2)
    go_ret
    exact ⟨by first | rfl | (simp [errW_none, errW_some] <;> rfl) | (simp [*, errW_none, errW_some] <;> rfl), by repeat (first | (with_reducible first | exact HI0.out | apply IsS50.alloc | apply IsS50.drewN | apply IsS50.drew | apply IsS50.set_0 | apply IsS50.set_1 | apply IsS50.set_2 | apply IsS50.set_3) | exact HI0.out), by repeat (first | (with_reducible first | exact HB.out | apply below_alloc | apply pw_below_drewN | apply below_drew1 | refine below_set ?_ (IsS50.ge HI0.out)) | exact HB.out), by repeat (first | (with_reducible first | exact HK.out | apply KeepBut.set_ | apply keep_drewN | apply keep_drew | apply keep_alloc) | exact HK.out)⟩

end Go.Proofs.Ytmeefdaanjaoaaa.M
