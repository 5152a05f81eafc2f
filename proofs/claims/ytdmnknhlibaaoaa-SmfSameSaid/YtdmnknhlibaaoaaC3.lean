/- Functions and contracts printed by a program of this session (wip/tools), and texts by hand: Print, Parse, and the plain answers (part 3). -/
import Derived.Test.YtdmnknhlibaaoaaCW
import Derived.Test.YtdmnknhlibaaoaaC1
import Derived.Test.YtdmnknhlibaaoaaC2
namespace Go.Proofs.Ytdmnknhlibaaoaa.M
open Go.RowKit Go.Proofs.YtdmnknhlibaaoaaW.PrintWords Go.Proofs.YtdmnknhlibaaoaaW.PrintLast Go.Proofs.YtdmnknhlibaaoaaW.PrintMore
attribute [local go_sem] max2_int min2_int max_two min_two max_three min_three max_four min_four
set_option linter.unusedVariables false
set_option linter.unusedSimpArgs false
def partitalaw16_Message.f (a0_0 : Int) (a0_1 : Int) (a0_2 : Int) (a0_3 : Int) (a0_4 : Int) (a0_5 : ByteArray) : Option (Int × Int × Int × Int × Int × ByteArray) := (some (([0, 1, 96, 127, 128, 16384, 268435455] : List Int) : List Int)).bind fun y103 => ((partitalaw16_pick.f a0_0 7).bind fun t106 => (if 0 ≤ t106 then (if t106 < (y103.length : Int) then ((partitalaw16_pick.f a0_1 9).bind fun t108 => (if 0 ≤ (mn (a0_5.size : Int) 200) then (if (mn (a0_5.size : Int) 200) ≤ (a0_5.size : Int) then (if (wrap64 (8 + t108)) = 15 then ((some (([240, 247] : List Int) : List Int)).bind fun y110 => ((partitalaw16_pick.f a0_3 2).bind fun t113 => (if 0 ≤ t113 then (if t113 < (y110.length : Int) then (some (rd y103 t106, wrap64 (8 + t108), 0, rd y110 t113, 0, a0_5.extract 0 ((mn (a0_5.size : Int) 200) : Int).toNat)) else (none)) else (none)))) else (if (wrap64 (8 + t108)) = 16 then ((partitalaw16_pick.f a0_3 47).bind fun t115 => (some (rd y103 t106, wrap64 (8 + t108), 0, t115, 0, a0_5.extract 0 ((mn (a0_5.size : Int) 200) : Int).toNat))) else ((partitalaw16_pick.f a0_2 16).bind fun t116 => ((partitalaw16_pick.f a0_3 128).bind fun t117 => (if (wrap64 (8 + t108)) = 12 then (some (rd y103 t106, wrap64 (8 + t108), t116, t117, 0, (⟨#[]⟩ : ByteArray))) else (if (wrap64 (8 + t108)) = 13 then (some (rd y103 t106, wrap64 (8 + t108), t116, t117, 0, (⟨#[]⟩ : ByteArray))) else ((partitalaw16_pick.f a0_4 128).bind fun t118 => (some (rd y103 t106, wrap64 (8 + t108), t116, t117, t118, (⟨#[]⟩ : ByteArray)))))))))) else (none)) else (none))) else (none)) else (none)))
def partitalaw16_Message.T1 : Bool × List (List Nat × List Nat) := (true, [([], []), ([], []), ([1], [1]), ([2], [2]), ([0, 3], [0, 3]), ([4], [4]), ([], []), ([6], [6]), ([7, 3], [7]), ([8], [8]), ([5, 9], [5, 9]), ([], []), ([11, 10, 8, 0, 1, 2, 3, 4, 5, 6, 7, 8, 9, 10, 11], [10, 11])])
def partitalaw16_Message.B1 : List Nat := [0, 0, 2, 6, 15, 31, 0, 64, 206, 462, 1023, 0, 4095]
theorem partitalaw16_Message.tab1 : rtab .any (opsOf Try.f25 1) = partitalaw16_Message.T1 := by kernel_rfl
theorem partitalaw16_Message.bits1 : waitsOk partitalaw16_Message.T1.2 partitalaw16_Message.B1 = true := by kernel_rfl
set_option maxHeartbeats 80000000 in
set_option maxRecDepth 100000 in
theorem partitalaw16_Message.calls (a0_0 : Int) (a0_1 : Int) (a0_2 : Int) (a0_3 : Int) (a0_4 : Int) (a0_5 : ByteArray) (r1 : Int) (r2 : Int) (r3 : Int) (r4 : Int) (r5 : Int) (r6 : ByteArray) (w : World) (h : partitalaw16_Message.f a0_0 a0_1 a0_2 a0_3 a0_4 a0_5 = some (r1, r2, r3, r4, r5, r6)) :
    Calls Try.prog 25 #[.agg #[.int .i64 a0_0, .int .i64 a0_1, .int .i64 a0_2, .int .i64 a0_3, .int .i64 a0_4, .string a0_5]] w fun e w' => e = .returned (.agg #[.int .i64 r1, .int .i64 r2, .int .i64 r3, .int .i64 r4, .int .i64 r5, .string r6]) ∧ Below w.heap.size w w' := by
  have hu28 := Try.underlying28
  have HB := Aside0.mk (Below.refl w.heap.size w)
  have H := h
  unfold partitalaw16_Message.f at H
  clear h
  obtain ⟨y103, hy103⟩ : ∃ y_ : List Int, y_ = (([0, 1, 96, 127, 128, 16384, 268435455] : List Int)) := ⟨_, rfl⟩
  replace H : ((partitalaw16_pick.f a0_0 7).bind fun t106 => (if 0 ≤ t106 then (if t106 < (y103.length : Int) then ((partitalaw16_pick.f a0_1 9).bind fun t108 => (if 0 ≤ (mn (a0_5.size : Int) 200) then (if (mn (a0_5.size : Int) 200) ≤ (a0_5.size : Int) then (if (wrap64 (8 + t108)) = 15 then ((some (([240, 247] : List Int) : List Int)).bind fun y110 => ((partitalaw16_pick.f a0_3 2).bind fun t113 => (if 0 ≤ t113 then (if t113 < (y110.length : Int) then (some (rd y103 t106, wrap64 (8 + t108), 0, rd y110 t113, 0, a0_5.extract 0 ((mn (a0_5.size : Int) 200) : Int).toNat)) else (none)) else (none)))) else (if (wrap64 (8 + t108)) = 16 then ((partitalaw16_pick.f a0_3 47).bind fun t115 => (some (rd y103 t106, wrap64 (8 + t108), 0, t115, 0, a0_5.extract 0 ((mn (a0_5.size : Int) 200) : Int).toNat))) else ((partitalaw16_pick.f a0_2 16).bind fun t116 => ((partitalaw16_pick.f a0_3 128).bind fun t117 => (if (wrap64 (8 + t108)) = 12 then (some (rd y103 t106, wrap64 (8 + t108), t116, t117, 0, (⟨#[]⟩ : ByteArray))) else (if (wrap64 (8 + t108)) = 13 then (some (rd y103 t106, wrap64 (8 + t108), t116, t117, 0, (⟨#[]⟩ : ByteArray))) else ((partitalaw16_pick.f a0_4 128).bind fun t118 => (some (rd y103 t106, wrap64 (8 + t108), t116, t117, t118, (⟨#[]⟩ : ByteArray)))))))))) else (none)) else (none))) else (none)) else (none))) = some (r1, r2, r3, r4, r5, r6) := by first | (rw [hy103]; with_reducible exact H) | (have H2_ := (Option.bind_some _ _).symm.trans H; rw [hy103]; with_reducible exact H2_) | (have H2_ := (Option.bind_some _ _).symm.trans H; with_reducible exact H2_) | with_reducible exact H | (rw [hy103]; exact H) | exact H
  have Ny103 := Aside0.mk hy103
  clear hy103
  replace H := Option.bind_eq_some_iff.mp H
  obtain ⟨t106, A20, H⟩ := H
  try dsimp -simprocs only at H
  have A2 := Aside0.mk A20
  clear A20
  by_cases c3 : 0 ≤ t106
  rotate_left
  · rw [if_neg c3] at H
    exact absurd H (by simp)
  rw [if_pos c3] at H
  have c3b0 : decide (0 ≤ t106) = true := decide_eq_true c3
  clear c3
  by_cases c4 : t106 < (y103.length : Int)
  rotate_left
  · rw [if_neg c4] at H
    exact absurd H (by simp)
  rw [if_pos c4] at H
  have c4b0 : decide (t106 < (y103.length : Int)) = true := decide_eq_true c4
  clear c4
  replace H := Option.bind_eq_some_iff.mp H
  obtain ⟨t108, A50, H⟩ := H
  try dsimp -simprocs only at H
  have A5 := Aside0.mk A50
  clear A50
  go_enter Try.func25, Try.ntmps25
  try go_wp2_with (first | ((with_reducible refine gate_dst (N := 1) rfl ?_); refine box_event ?hg (N := 1) ?hd (cs := #[.int .i64 a0_0, .int .i64 a0_1, .int .i64 a0_2, .int .i64 a0_3, .int .i64 a0_4, .string a0_5]) (t := 28) ?hr ?_; (case hd => rfl); (case hg => rfl); (case hr => exact qq6); intro gb101 hg w13 hbox hb; have BK101 := Aside0.mk (hbox); have GW101 := Aside0.mk ((qq9 : w.heap.size ≤ gb101)); have GE101 := Aside0.mk ((qq9 : w.heap.size ≤ gb101)); replace HB := Aside0.mk (below_step (qB HB.out) hb); clear hb hbox hg) | ((with_reducible refine gate_dst (N := 2) rfl ?_); refine box_event ?hg (N := 2) ?hd (cs := #[.int .i64 0, .int .i64 0, .int .i64 0, .int .i64 0, .int .i64 0, .string (⟨#[]⟩ : ByteArray)]) (t := 28) ?hr ?_; (case hd => rfl); (case hg => rfl); (case hr => exact qq6); intro gb102 hg w14 hbox hb; have BK102 := Aside0.mk (hbox); have GW102 := Aside0.mk ((qqh : w.heap.size ≤ gb102)); have GE102 := Aside0.mk ((qqh : w.heap.size ≤ gb102)); replace HB := Aside0.mk (below_step (qS1 GE101 HB.out) hb); have NB101_102 := Aside0.mk ((qqb : gb101 ≠ gb102)); have NB102_101 := Aside0.mk ((qqc : gb102 ≠ gb101)); replace BK101 := Aside0.mk (blk_below (bq BK101.out) hb); clear hb hbox hg))
  have pi107 : (0 ≤ (t106 : Int)) = True := eq_true (of_decide_eq_true qq4)
  have qi107 : (t106 < (y103.length : Int)) = True := eq_true (of_decide_eq_true qq4)
  replace BK101 := Aside0.mk (blk_drew BK101.out)
  replace BK102 := Aside0.mk (blk_drew BK102.out)
  replace HB := Aside0.mk (below_drew1 HB.out)
  refine start_ (n := 13) (S := fun w' => w'.cell? ⟨gb101, 0, none⟩ = some (.int .i64 a0_0) ∧ w'.cell? ⟨gb101, 1, none⟩ = some (.int .i64 a0_1) ∧ w'.cell? ⟨gb101, 2, none⟩ = some (.int .i64 a0_2) ∧ w'.cell? ⟨gb101, 3, none⟩ = some (.int .i64 a0_3) ∧ w'.cell? ⟨gb101, 4, none⟩ = some (.int .i64 a0_4) ∧ w'.cell? ⟨gb101, 5, none⟩ = some (.string a0_5)) (ds := []) #[false, false, false, false, false, false, false, false, false, false, false, false, false] (by kernel_rfl) rfl rfl ⟨(blk_cell BK101.out 0).trans rfl, (blk_cell BK101.out 1).trans rfl, (blk_cell BK101.out 2).trans rfl, (blk_cell BK101.out 3).trans rfl, (blk_cell BK101.out 4).trans rfl, (blk_cell BK101.out 5).trans rfl⟩ (fun hHeld => ?_); refine with_tabW partitalaw16_Message.tab1 partitalaw16_Message.bits1 (fun HT_ HW_ => ?_)
  generalize w14.drew = w15 at BK101 BK102 HB hHeld ⊢
  refine pureS 1 (some 6) (bs 2 13) ?_
  refine pureS 6 (some 11) (bs 66 13) ?_
  refine take_ (i := 2) (N := some 7) (v := ?_) (a' := ?_) (bs 70 13) rfl rfl (take_ofW HT_.out HW_.out (by kernel_rfl)) (fun _ _ _ h => h) (Or.inl ⟨by rfl, ?_⟩) hHeld ?_ ?_
  rotate_left
  · rintro w' ⟨s0, s1, s2, s3, s4, s5⟩
    go_simp
    with_reducible rfl
  rotate_left
  · simp only [Act.put, List.setIfInBounds_toArray, List.set_cons_zero, List.set_cons_succ, i64_w, i32_w]
    rfl
  refine take_ (i := 7) (N := some 12) (v := ?_) (a' := ?_) (bs 198 13) rfl rfl (take_ofW HT_.out HW_.out (by kernel_rfl)) (fun _ _ _ h => h) (Or.inl ⟨by rfl, ?_⟩) hHeld ?_ ?_
  rotate_left
  · rintro w' ⟨s0, s1, s2, s3, s4, s5⟩
    go_simp
    with_reducible rfl
  rotate_left
  · simp only [Act.put, List.setIfInBounds_toArray, List.set_cons_zero, List.set_cons_succ, i64_w, i32_w]
    rfl
  refine join_ (σ := Value × Addr × Nat) 1 (bs 4095 13) (fun s_ => [(5, s_.1), (8, .int .i64 t106), (10, .int .i64 (rd y103 t106)), (13, .int .i64 t108), (3, .pointer (some ⟨s_.2.2, 0, none⟩)), (9, .pointer (some (s_.2.1.add (t106).toNat))), (14, .int .i64 (wrap64 (8 + t108))), (15, .agg #[.int .i64 (rd y103 t106), .int .i64 (wrap64 (8 + t108)), .int .i64 0, .int .i64 0, .int .i64 0, .string (⟨#[]⟩ : ByteArray)])]) (fun s_ w' => (w'.cell? ⟨gb101, 0, none⟩ = some (.int .i64 a0_0) ∧ w'.cell? ⟨gb101, 1, none⟩ = some (.int .i64 a0_1) ∧ w'.cell? ⟨gb101, 2, none⟩ = some (.int .i64 a0_2) ∧ w'.cell? ⟨gb101, 3, none⟩ = some (.int .i64 a0_3) ∧ w'.cell? ⟨gb101, 4, none⟩ = some (.int .i64 a0_4) ∧ w'.cell? ⟨gb101, 5, none⟩ = some (.string a0_5)) ∧ (Kd.R (Kd.int .i64) 3 w' w.heap.size (fun _ => True) s_.1 y103) ∧ (∃ c_, (s_.1 : Value) = .slice (some s_.2.1) y103.length c_) ∧ (w'.heap[gb101]? = some (.cells #[.int .i64 a0_0, .int .i64 a0_1, .int .i64 a0_2, .int .i64 a0_3, .int .i64 a0_4, .string a0_5] 28 (0, 0))) ∧ (w'.heap[gb102]? = some (.cells #[.int .i64 0, .int .i64 0, .int .i64 0, .int .i64 0, .int .i64 0, .string (⟨#[]⟩ : ByteArray)] 28 (0, 0))) ∧ (w'.heap[s_.2.2]? = some (.cells #[.int .i64 0, .int .i64 0, .int .i64 0, .int .i64 0, .int .i64 0, .string (⟨#[]⟩ : ByteArray)] 28 (0, 0))) ∧ (w.heap.size ≤ s_.2.2) ∧ (w.heap.size ≤ s_.2.2) ∧ (gb101 ≠ s_.2.2) ∧ (s_.2.2 ≠ gb101) ∧ (gb102 ≠ s_.2.2) ∧ (s_.2.2 ≠ gb102) ∧ (Below w.heap.size w w')) ?_ ?_
  rotate_left
  · intro hJ0_3_5_8_11
    refine join_ (σ := Value × Addr) 2 (bs 2047 13) (fun s_ => [(5, s_.1), (8, .int .i64 t106), (10, .int .i64 (rd y103 t106)), (13, .int .i64 t108), (9, .pointer (some (s_.2.add (t106).toNat))), (14, .int .i64 (wrap64 (8 + t108))), (15, .agg #[.int .i64 (rd y103 t106), .int .i64 (wrap64 (8 + t108)), .int .i64 0, .int .i64 0, .int .i64 0, .string (⟨#[]⟩ : ByteArray)])]) (fun s_ w' => (w'.cell? ⟨gb101, 0, none⟩ = some (.int .i64 a0_0) ∧ w'.cell? ⟨gb101, 1, none⟩ = some (.int .i64 a0_1) ∧ w'.cell? ⟨gb101, 2, none⟩ = some (.int .i64 a0_2) ∧ w'.cell? ⟨gb101, 3, none⟩ = some (.int .i64 a0_3) ∧ w'.cell? ⟨gb101, 4, none⟩ = some (.int .i64 a0_4) ∧ w'.cell? ⟨gb101, 5, none⟩ = some (.string a0_5)) ∧ (Kd.R (Kd.int .i64) 3 w' w.heap.size (fun _ => True) s_.1 y103) ∧ (∃ c_, (s_.1 : Value) = .slice (some s_.2) y103.length c_) ∧ (w'.heap[gb101]? = some (.cells #[.int .i64 a0_0, .int .i64 a0_1, .int .i64 a0_2, .int .i64 a0_3, .int .i64 a0_4, .string a0_5] 28 (0, 0))) ∧ (w'.heap[gb102]? = some (.cells #[.int .i64 0, .int .i64 0, .int .i64 0, .int .i64 0, .int .i64 0, .string (⟨#[]⟩ : ByteArray)] 28 (0, 0))) ∧ (Below w.heap.size w w')) ?_ ?_
    rotate_left
    · intro hJ0_3_5_8
      refine join_ (σ := Value × Addr × Nat) 4 (bs 2303 13) (fun s_ => [(5, s_.1), (8, .int .i64 t106), (10, .int .i64 (rd y103 t106)), (3, .pointer (some ⟨s_.2.2, 0, none⟩)), (9, .pointer (some (s_.2.1.add (t106).toNat)))]) (fun s_ w' => (w'.cell? ⟨gb101, 0, none⟩ = some (.int .i64 a0_0) ∧ w'.cell? ⟨gb101, 1, none⟩ = some (.int .i64 a0_1) ∧ w'.cell? ⟨gb101, 2, none⟩ = some (.int .i64 a0_2) ∧ w'.cell? ⟨gb101, 3, none⟩ = some (.int .i64 a0_3) ∧ w'.cell? ⟨gb101, 4, none⟩ = some (.int .i64 a0_4) ∧ w'.cell? ⟨gb101, 5, none⟩ = some (.string a0_5)) ∧ (Kd.R (Kd.int .i64) 3 w' w.heap.size (fun _ => True) s_.1 y103) ∧ (∃ c_, (s_.1 : Value) = .slice (some s_.2.1) y103.length c_) ∧ (w'.heap[gb101]? = some (.cells #[.int .i64 a0_0, .int .i64 a0_1, .int .i64 a0_2, .int .i64 a0_3, .int .i64 a0_4, .string a0_5] 28 (0, 0))) ∧ (w'.heap[gb102]? = some (.cells #[.int .i64 0, .int .i64 0, .int .i64 0, .int .i64 0, .int .i64 0, .string (⟨#[]⟩ : ByteArray)] 28 (0, 0))) ∧ (w'.heap[s_.2.2]? = some (.cells #[.int .i64 0, .int .i64 0, .int .i64 0, .int .i64 0, .int .i64 0, .string (⟨#[]⟩ : ByteArray)] 28 (0, 0))) ∧ (w.heap.size ≤ s_.2.2) ∧ (w.heap.size ≤ s_.2.2) ∧ (gb101 ≠ s_.2.2) ∧ (s_.2.2 ≠ gb101) ∧ (gb102 ≠ s_.2.2) ∧ (s_.2.2 ≠ gb102) ∧ (Below w.heap.size w w')) ?_ ?_
      rotate_left
      · intro hJ0_3_5_11
        refine join_ (σ := Value × Addr × Nat) 3 (bs 3039 13) (fun s_ => [(5, s_.1), (8, .int .i64 t106), (13, .int .i64 t108), (3, .pointer (some ⟨s_.2.2, 0, none⟩)), (9, .pointer (some (s_.2.1.add (t106).toNat))), (14, .int .i64 (wrap64 (8 + t108)))]) (fun s_ w' => (w'.cell? ⟨gb101, 0, none⟩ = some (.int .i64 a0_0) ∧ w'.cell? ⟨gb101, 1, none⟩ = some (.int .i64 a0_1) ∧ w'.cell? ⟨gb101, 2, none⟩ = some (.int .i64 a0_2) ∧ w'.cell? ⟨gb101, 3, none⟩ = some (.int .i64 a0_3) ∧ w'.cell? ⟨gb101, 4, none⟩ = some (.int .i64 a0_4) ∧ w'.cell? ⟨gb101, 5, none⟩ = some (.string a0_5)) ∧ (Kd.R (Kd.int .i64) 3 w' w.heap.size (fun _ => True) s_.1 y103) ∧ (∃ c_, (s_.1 : Value) = .slice (some s_.2.1) y103.length c_) ∧ (w'.heap[gb101]? = some (.cells #[.int .i64 a0_0, .int .i64 a0_1, .int .i64 a0_2, .int .i64 a0_3, .int .i64 a0_4, .string a0_5] 28 (0, 0))) ∧ (w'.heap[gb102]? = some (.cells #[.int .i64 0, .int .i64 0, .int .i64 0, .int .i64 0, .int .i64 0, .string (⟨#[]⟩ : ByteArray)] 28 (0, 0))) ∧ (w'.heap[s_.2.2]? = some (.cells #[.int .i64 0, .int .i64 0, .int .i64 0, .int .i64 0, .int .i64 0, .string (⟨#[]⟩ : ByteArray)] 28 (0, 0))) ∧ (w.heap.size ≤ s_.2.2) ∧ (w.heap.size ≤ s_.2.2) ∧ (gb101 ≠ s_.2.2) ∧ (s_.2.2 ≠ gb101) ∧ (gb102 ≠ s_.2.2) ∧ (s_.2.2 ≠ gb102) ∧ (Below w.heap.size w w')) ?_ ?_
        rotate_left
        · intro hJ0_3_8_11
          refine join_ (σ := Value × Addr) 5 (bs 255 13) (fun s_ => [(5, s_.1), (8, .int .i64 t106), (10, .int .i64 (rd y103 t106)), (9, .pointer (some (s_.2.add (t106).toNat)))]) (fun s_ w' => (w'.cell? ⟨gb101, 0, none⟩ = some (.int .i64 a0_0) ∧ w'.cell? ⟨gb101, 1, none⟩ = some (.int .i64 a0_1) ∧ w'.cell? ⟨gb101, 2, none⟩ = some (.int .i64 a0_2) ∧ w'.cell? ⟨gb101, 3, none⟩ = some (.int .i64 a0_3) ∧ w'.cell? ⟨gb101, 4, none⟩ = some (.int .i64 a0_4) ∧ w'.cell? ⟨gb101, 5, none⟩ = some (.string a0_5)) ∧ (Kd.R (Kd.int .i64) 3 w' w.heap.size (fun _ => True) s_.1 y103) ∧ (∃ c_, (s_.1 : Value) = .slice (some s_.2) y103.length c_) ∧ (w'.heap[gb101]? = some (.cells #[.int .i64 a0_0, .int .i64 a0_1, .int .i64 a0_2, .int .i64 a0_3, .int .i64 a0_4, .string a0_5] 28 (0, 0))) ∧ (w'.heap[gb102]? = some (.cells #[.int .i64 0, .int .i64 0, .int .i64 0, .int .i64 0, .int .i64 0, .string (⟨#[]⟩ : ByteArray)] 28 (0, 0))) ∧ (Below w.heap.size w w')) ?_ ?_
          rotate_left
          · intro hJ0_3_5
            refine join_ (σ := Value × Addr) 4 (bs 991 13) (fun s_ => [(5, s_.1), (8, .int .i64 t106), (13, .int .i64 t108), (9, .pointer (some (s_.2.add (t106).toNat))), (14, .int .i64 (wrap64 (8 + t108)))]) (fun s_ w' => (w'.cell? ⟨gb101, 0, none⟩ = some (.int .i64 a0_0) ∧ w'.cell? ⟨gb101, 1, none⟩ = some (.int .i64 a0_1) ∧ w'.cell? ⟨gb101, 2, none⟩ = some (.int .i64 a0_2) ∧ w'.cell? ⟨gb101, 3, none⟩ = some (.int .i64 a0_3) ∧ w'.cell? ⟨gb101, 4, none⟩ = some (.int .i64 a0_4) ∧ w'.cell? ⟨gb101, 5, none⟩ = some (.string a0_5)) ∧ (Kd.R (Kd.int .i64) 3 w' w.heap.size (fun _ => True) s_.1 y103) ∧ (∃ c_, (s_.1 : Value) = .slice (some s_.2) y103.length c_) ∧ (w'.heap[gb101]? = some (.cells #[.int .i64 a0_0, .int .i64 a0_1, .int .i64 a0_2, .int .i64 a0_3, .int .i64 a0_4, .string a0_5] 28 (0, 0))) ∧ (w'.heap[gb102]? = some (.cells #[.int .i64 0, .int .i64 0, .int .i64 0, .int .i64 0, .int .i64 0, .string (⟨#[]⟩ : ByteArray)] 28 (0, 0))) ∧ (Below w.heap.size w w')) ?_ ?_
            rotate_left
            · intro hJ0_3_8
              refine join_ (σ := Value × Addr × Nat) 5 (bs 2271 13) (fun s_ => [(5, s_.1), (8, .int .i64 t106), (3, .pointer (some ⟨s_.2.2, 0, none⟩)), (9, .pointer (some (s_.2.1.add (t106).toNat)))]) (fun s_ w' => (w'.cell? ⟨gb101, 0, none⟩ = some (.int .i64 a0_0) ∧ w'.cell? ⟨gb101, 1, none⟩ = some (.int .i64 a0_1) ∧ w'.cell? ⟨gb101, 2, none⟩ = some (.int .i64 a0_2) ∧ w'.cell? ⟨gb101, 3, none⟩ = some (.int .i64 a0_3) ∧ w'.cell? ⟨gb101, 4, none⟩ = some (.int .i64 a0_4) ∧ w'.cell? ⟨gb101, 5, none⟩ = some (.string a0_5)) ∧ (Kd.R (Kd.int .i64) 3 w' w.heap.size (fun _ => True) s_.1 y103) ∧ (∃ c_, (s_.1 : Value) = .slice (some s_.2.1) y103.length c_) ∧ (w'.heap[gb101]? = some (.cells #[.int .i64 a0_0, .int .i64 a0_1, .int .i64 a0_2, .int .i64 a0_3, .int .i64 a0_4, .string a0_5] 28 (0, 0))) ∧ (w'.heap[gb102]? = some (.cells #[.int .i64 0, .int .i64 0, .int .i64 0, .int .i64 0, .int .i64 0, .string (⟨#[]⟩ : ByteArray)] 28 (0, 0))) ∧ (w'.heap[s_.2.2]? = some (.cells #[.int .i64 0, .int .i64 0, .int .i64 0, .int .i64 0, .int .i64 0, .string (⟨#[]⟩ : ByteArray)] 28 (0, 0))) ∧ (w.heap.size ≤ s_.2.2) ∧ (w.heap.size ≤ s_.2.2) ∧ (gb101 ≠ s_.2.2) ∧ (s_.2.2 ≠ gb101) ∧ (gb102 ≠ s_.2.2) ∧ (s_.2.2 ≠ gb102) ∧ (Below w.heap.size w w')) ?_ ?_
              rotate_left
              · intro hJ0_3_11
                refine join_ (σ := Nat) 5 (bs 3022 13) (fun s_ => [(8, .int .i64 t106), (13, .int .i64 t108), (3, .pointer (some ⟨s_, 0, none⟩)), (14, .int .i64 (wrap64 (8 + t108)))]) (fun s_ w' => (w'.cell? ⟨gb101, 0, none⟩ = some (.int .i64 a0_0) ∧ w'.cell? ⟨gb101, 1, none⟩ = some (.int .i64 a0_1) ∧ w'.cell? ⟨gb101, 2, none⟩ = some (.int .i64 a0_2) ∧ w'.cell? ⟨gb101, 3, none⟩ = some (.int .i64 a0_3) ∧ w'.cell? ⟨gb101, 4, none⟩ = some (.int .i64 a0_4) ∧ w'.cell? ⟨gb101, 5, none⟩ = some (.string a0_5)) ∧ (w'.heap[gb101]? = some (.cells #[.int .i64 a0_0, .int .i64 a0_1, .int .i64 a0_2, .int .i64 a0_3, .int .i64 a0_4, .string a0_5] 28 (0, 0))) ∧ (w'.heap[gb102]? = some (.cells #[.int .i64 0, .int .i64 0, .int .i64 0, .int .i64 0, .int .i64 0, .string (⟨#[]⟩ : ByteArray)] 28 (0, 0))) ∧ (w'.heap[s_]? = some (.cells #[.int .i64 0, .int .i64 0, .int .i64 0, .int .i64 0, .int .i64 0, .string (⟨#[]⟩ : ByteArray)] 28 (0, 0))) ∧ (w.heap.size ≤ s_) ∧ (w.heap.size ≤ s_) ∧ (gb101 ≠ s_) ∧ (s_ ≠ gb101) ∧ (gb102 ≠ s_) ∧ (s_ ≠ gb102) ∧ (Below w.heap.size w w')) ?_ ?_
                rotate_left
                · intro hJ3_8_11
                  refine join_ (σ := Value × Addr) 6 (bs 223 13) (fun s_ => [(5, s_.1), (8, .int .i64 t106), (9, .pointer (some (s_.2.add (t106).toNat)))]) (fun s_ w' => (w'.cell? ⟨gb101, 0, none⟩ = some (.int .i64 a0_0) ∧ w'.cell? ⟨gb101, 1, none⟩ = some (.int .i64 a0_1) ∧ w'.cell? ⟨gb101, 2, none⟩ = some (.int .i64 a0_2) ∧ w'.cell? ⟨gb101, 3, none⟩ = some (.int .i64 a0_3) ∧ w'.cell? ⟨gb101, 4, none⟩ = some (.int .i64 a0_4) ∧ w'.cell? ⟨gb101, 5, none⟩ = some (.string a0_5)) ∧ (Kd.R (Kd.int .i64) 3 w' w.heap.size (fun _ => True) s_.1 y103) ∧ (∃ c_, (s_.1 : Value) = .slice (some s_.2) y103.length c_) ∧ (w'.heap[gb101]? = some (.cells #[.int .i64 a0_0, .int .i64 a0_1, .int .i64 a0_2, .int .i64 a0_3, .int .i64 a0_4, .string a0_5] 28 (0, 0))) ∧ (w'.heap[gb102]? = some (.cells #[.int .i64 0, .int .i64 0, .int .i64 0, .int .i64 0, .int .i64 0, .string (⟨#[]⟩ : ByteArray)] 28 (0, 0))) ∧ (Below w.heap.size w w')) ?_ ?_
                  rotate_left
                  · intro hJ0_3
                    refine join_ (σ := Value × Addr × Nat) 7 (bs 2247 13) (fun s_ => [(5, s_.1), (3, .pointer (some ⟨s_.2.2, 0, none⟩))]) (fun s_ w' => (w'.cell? ⟨gb101, 0, none⟩ = some (.int .i64 a0_0) ∧ w'.cell? ⟨gb101, 1, none⟩ = some (.int .i64 a0_1) ∧ w'.cell? ⟨gb101, 2, none⟩ = some (.int .i64 a0_2) ∧ w'.cell? ⟨gb101, 3, none⟩ = some (.int .i64 a0_3) ∧ w'.cell? ⟨gb101, 4, none⟩ = some (.int .i64 a0_4) ∧ w'.cell? ⟨gb101, 5, none⟩ = some (.string a0_5)) ∧ (Kd.R (Kd.int .i64) 3 w' w.heap.size (fun _ => True) s_.1 y103) ∧ (∃ c_, (s_.1 : Value) = .slice (some s_.2.1) y103.length c_) ∧ (w'.heap[gb101]? = some (.cells #[.int .i64 a0_0, .int .i64 a0_1, .int .i64 a0_2, .int .i64 a0_3, .int .i64 a0_4, .string a0_5] 28 (0, 0))) ∧ (w'.heap[gb102]? = some (.cells #[.int .i64 0, .int .i64 0, .int .i64 0, .int .i64 0, .int .i64 0, .string (⟨#[]⟩ : ByteArray)] 28 (0, 0))) ∧ (w'.heap[s_.2.2]? = some (.cells #[.int .i64 0, .int .i64 0, .int .i64 0, .int .i64 0, .int .i64 0, .string (⟨#[]⟩ : ByteArray)] 28 (0, 0))) ∧ (w.heap.size ≤ s_.2.2) ∧ (w.heap.size ≤ s_.2.2) ∧ (gb101 ≠ s_.2.2) ∧ (s_.2.2 ≠ gb101) ∧ (gb102 ≠ s_.2.2) ∧ (s_.2.2 ≠ gb102) ∧ (Below w.heap.size w w')) ?_ ?_
                    rotate_left
                    · intro hJ0_11
                      refine join_ (σ := Unit) 6 (bs 974 13) (fun s_ => [(8, .int .i64 t106), (13, .int .i64 t108), (14, .int .i64 (wrap64 (8 + t108)))]) (fun s_ w' => (w'.cell? ⟨gb101, 0, none⟩ = some (.int .i64 a0_0) ∧ w'.cell? ⟨gb101, 1, none⟩ = some (.int .i64 a0_1) ∧ w'.cell? ⟨gb101, 2, none⟩ = some (.int .i64 a0_2) ∧ w'.cell? ⟨gb101, 3, none⟩ = some (.int .i64 a0_3) ∧ w'.cell? ⟨gb101, 4, none⟩ = some (.int .i64 a0_4) ∧ w'.cell? ⟨gb101, 5, none⟩ = some (.string a0_5)) ∧ (w'.heap[gb101]? = some (.cells #[.int .i64 a0_0, .int .i64 a0_1, .int .i64 a0_2, .int .i64 a0_3, .int .i64 a0_4, .string a0_5] 28 (0, 0))) ∧ (w'.heap[gb102]? = some (.cells #[.int .i64 0, .int .i64 0, .int .i64 0, .int .i64 0, .int .i64 0, .string (⟨#[]⟩ : ByteArray)] 28 (0, 0))) ∧ (Below w.heap.size w w')) ?_ ?_
                      rotate_left
                      · intro hJ3_8
                        refine join_ (σ := Nat) 7 (bs 2254 13) (fun s_ => [(8, .int .i64 t106), (3, .pointer (some ⟨s_, 0, none⟩))]) (fun s_ w' => (w'.cell? ⟨gb101, 0, none⟩ = some (.int .i64 a0_0) ∧ w'.cell? ⟨gb101, 1, none⟩ = some (.int .i64 a0_1) ∧ w'.cell? ⟨gb101, 2, none⟩ = some (.int .i64 a0_2) ∧ w'.cell? ⟨gb101, 3, none⟩ = some (.int .i64 a0_3) ∧ w'.cell? ⟨gb101, 4, none⟩ = some (.int .i64 a0_4) ∧ w'.cell? ⟨gb101, 5, none⟩ = some (.string a0_5)) ∧ (w'.heap[gb101]? = some (.cells #[.int .i64 a0_0, .int .i64 a0_1, .int .i64 a0_2, .int .i64 a0_3, .int .i64 a0_4, .string a0_5] 28 (0, 0))) ∧ (w'.heap[gb102]? = some (.cells #[.int .i64 0, .int .i64 0, .int .i64 0, .int .i64 0, .int .i64 0, .string (⟨#[]⟩ : ByteArray)] 28 (0, 0))) ∧ (w'.heap[s_]? = some (.cells #[.int .i64 0, .int .i64 0, .int .i64 0, .int .i64 0, .int .i64 0, .string (⟨#[]⟩ : ByteArray)] 28 (0, 0))) ∧ (w.heap.size ≤ s_) ∧ (w.heap.size ≤ s_) ∧ (gb101 ≠ s_) ∧ (s_ ≠ gb101) ∧ (gb102 ≠ s_) ∧ (s_ ≠ gb102) ∧ (Below w.heap.size w w')) ?_ ?_
                        rotate_left
                        · intro hJ3_11
                          refine join_ (σ := Value × Addr) 8 (bs 199 13) (fun s_ => [(5, s_.1)]) (fun s_ w' => (w'.cell? ⟨gb101, 0, none⟩ = some (.int .i64 a0_0) ∧ w'.cell? ⟨gb101, 1, none⟩ = some (.int .i64 a0_1) ∧ w'.cell? ⟨gb101, 2, none⟩ = some (.int .i64 a0_2) ∧ w'.cell? ⟨gb101, 3, none⟩ = some (.int .i64 a0_3) ∧ w'.cell? ⟨gb101, 4, none⟩ = some (.int .i64 a0_4) ∧ w'.cell? ⟨gb101, 5, none⟩ = some (.string a0_5)) ∧ (Kd.R (Kd.int .i64) 3 w' w.heap.size (fun _ => True) s_.1 y103) ∧ (∃ c_, (s_.1 : Value) = .slice (some s_.2) y103.length c_) ∧ (w'.heap[gb101]? = some (.cells #[.int .i64 a0_0, .int .i64 a0_1, .int .i64 a0_2, .int .i64 a0_3, .int .i64 a0_4, .string a0_5] 28 (0, 0))) ∧ (w'.heap[gb102]? = some (.cells #[.int .i64 0, .int .i64 0, .int .i64 0, .int .i64 0, .int .i64 0, .string (⟨#[]⟩ : ByteArray)] 28 (0, 0))) ∧ (Below w.heap.size w w')) ?_ ?_
                          rotate_left
                          · intro hJ0
                            refine join_ (σ := Unit) 8 (bs 206 13) (fun s_ => [(8, .int .i64 t106)]) (fun s_ w' => (w'.cell? ⟨gb101, 0, none⟩ = some (.int .i64 a0_0) ∧ w'.cell? ⟨gb101, 1, none⟩ = some (.int .i64 a0_1) ∧ w'.cell? ⟨gb101, 2, none⟩ = some (.int .i64 a0_2) ∧ w'.cell? ⟨gb101, 3, none⟩ = some (.int .i64 a0_3) ∧ w'.cell? ⟨gb101, 4, none⟩ = some (.int .i64 a0_4) ∧ w'.cell? ⟨gb101, 5, none⟩ = some (.string a0_5)) ∧ (w'.heap[gb101]? = some (.cells #[.int .i64 a0_0, .int .i64 a0_1, .int .i64 a0_2, .int .i64 a0_3, .int .i64 a0_4, .string a0_5] 28 (0, 0))) ∧ (w'.heap[gb102]? = some (.cells #[.int .i64 0, .int .i64 0, .int .i64 0, .int .i64 0, .int .i64 0, .string (⟨#[]⟩ : ByteArray)] 28 (0, 0))) ∧ (Below w.heap.size w w')) ?_ ?_
                            rotate_left
                            · intro hJ3
                              refine join_ (σ := Nat) 8 (bs 2246 13) (fun s_ => [(3, .pointer (some ⟨s_, 0, none⟩))]) (fun s_ w' => (w'.cell? ⟨gb101, 0, none⟩ = some (.int .i64 a0_0) ∧ w'.cell? ⟨gb101, 1, none⟩ = some (.int .i64 a0_1) ∧ w'.cell? ⟨gb101, 2, none⟩ = some (.int .i64 a0_2) ∧ w'.cell? ⟨gb101, 3, none⟩ = some (.int .i64 a0_3) ∧ w'.cell? ⟨gb101, 4, none⟩ = some (.int .i64 a0_4) ∧ w'.cell? ⟨gb101, 5, none⟩ = some (.string a0_5)) ∧ (w'.heap[gb101]? = some (.cells #[.int .i64 a0_0, .int .i64 a0_1, .int .i64 a0_2, .int .i64 a0_3, .int .i64 a0_4, .string a0_5] 28 (0, 0))) ∧ (w'.heap[gb102]? = some (.cells #[.int .i64 0, .int .i64 0, .int .i64 0, .int .i64 0, .int .i64 0, .string (⟨#[]⟩ : ByteArray)] 28 (0, 0))) ∧ (w'.heap[s_]? = some (.cells #[.int .i64 0, .int .i64 0, .int .i64 0, .int .i64 0, .int .i64 0, .string (⟨#[]⟩ : ByteArray)] 28 (0, 0))) ∧ (w.heap.size ≤ s_) ∧ (w.heap.size ≤ s_) ∧ (gb101 ≠ s_) ∧ (s_ ≠ gb101) ∧ (gb102 ≠ s_) ∧ (s_ ≠ gb102) ∧ (Below w.heap.size w w')) ?_ ?_
                              rotate_left
                              · intro hJ11
                                refine three_ (i := 0) (j := 3) (k := 11) (Ni := some 5) (Nj := some 8) (Nk := some 3) (bs 199 13) (bs 206 13) (bs 2246 13) rfl rfl rfl rfl rfl rfl (three_of HT_.out (by kernel_rfl)) (by decide) (by decide) (by decide) (fun K hK => ?_) (fun K hK => ?_) (fun K hK => ?_)
                                · skip
                                  refine Kd.R_lit_step (Kd.int .i64) _ 3 ?hg (N := 5) ?hd (xs := ([0, 1, 96, 127, 128, 16384, 268435455] : List Int)) (inner := [.int .i64 0, .int .i64 1, .int .i64 96, .int .i64 127, .int .i64 128, .int .i64 16384, .int .i64 268435455]) (ok := fun _ => True) (okp := fun _ => True) ?hr ?hp (fun _ hk => hk) trivial (Below.refl _ _) (Nat.le_refl _) (by simp) ?_; (case hd => rfl); (case hg => rfl); (case hr => exact qq6); (case hp => exact qqa)
                                  intro v104 w16 ho17 hb hg_ hnew_
                                  clear hg_ hnew_
                                  (first | rw [← Ny103.out] at ho17 | (simp only [Int.reduceToNat] at ho17; rw [← Ny103.out] at ho17))
                                  have HO105 := Aside0.mk (Kd.R_lower ho17 (below_size (qS2 GE101 GE102 HB.out)))
                                  replace BK101 := Aside0.mk (blk_below (bq BK101.out) hb)
                                  replace BK102 := Aside0.mk (blk_below (bq BK102.out) hb)
                                  replace HB := Aside0.mk (below_step (qS2 GE101 GE102 HB.out) hb)
                                  clear hb ho17
                                  obtain ⟨Ao18, co18, eo18⟩ := Kd.R_slice HO105.out
                                  subst eo18
                                  obtain ⟨ado18, fo18, _⟩ := Kd.at_int (Kd.R_reads' HO105.out).2.2 0 (by decide) qq1B
                                  cases fo18
                                  refine hK.out _ _ ⟨(blk_cell BK101.out 0).trans rfl, (blk_cell BK101.out 1).trans rfl, (blk_cell BK101.out 2).trans rfl, (blk_cell BK101.out 3).trans rfl, (blk_cell BK101.out 4).trans rfl, (blk_cell BK101.out 5).trans rfl⟩ (fun hHeld => ?_)
                                  clear hK K
                                  refine normS (some 5) ?_
                                  exact norm_ qq1 (hJ0 (.slice (some ado18) y103.length co18, ado18) _ ⟨hHeld, (qR HO105.out), ⟨_, rfl⟩, (bq BK101.out), (bq BK102.out), (qS2 GE101 GE102 HB.out)⟩)
                                · skip
                                  refine goes_ Try.func19 (by kernel_rfl) rfl #[.int .i64 a0_0, .int .i64 7] (by rfl) rfl rfl qq0 ?_
                                  with_reducible refine (partitalaw16_pick.calls a0_0 7 t106 _ A2.out).mono ?_
                                  rintro e w' ⟨rfl, ⟨nd, rfl⟩⟩
                                  refine ⟨_, rfl, ?_⟩
                                  refine hK.out _ _ ⟨(blk_cell BK101.out 0).trans rfl, (blk_cell BK101.out 1).trans rfl, (blk_cell BK101.out 2).trans rfl, (blk_cell BK101.out 3).trans rfl, (blk_cell BK101.out 4).trans rfl, (blk_cell BK101.out 5).trans rfl⟩ (fun hHeld => ?_)
                                  clear hK K
                                  refine normS (some 8) ?_
                                  exact norm_ qq1 (hJ3 () _ ⟨hHeld, (bq BK101.out), (bq BK102.out), (qS2 GE101 GE102 HB.out)⟩)
                                skip
                                refine box_step ?hg (N := 3) ?hd (cs := #[.int .i64 0, .int .i64 0, .int .i64 0, .int .i64 0, .int .i64 0, .string (⟨#[]⟩ : ByteArray)]) (t := 28) ?hr ?_; (case hd => rfl); (case hg => rfl); (case hr => exact qq6)
                                intro gb109 hg w16 hbox hb
                                have BK109 := Aside0.mk (hbox)
                                have GW109 := Aside0.mk ((qqe : w.heap.size ≤ gb109))
                                have GE109 := Aside0.mk ((qqe : w.heap.size ≤ gb109))
                                replace HB := Aside0.mk (below_step (qS2 GE101 GE102 HB.out) hb)
                                have NB101_109 := Aside0.mk ((qqb : gb101 ≠ gb109))
                                have NB109_101 := Aside0.mk ((qqc : gb109 ≠ gb101))
                                replace BK101 := Aside0.mk (blk_below (bq BK101.out) hb)
                                have NB102_109 := Aside0.mk ((qqk : gb102 ≠ gb109))
                                have NB109_102 := Aside0.mk ((qql : gb109 ≠ gb102))
                                replace BK102 := Aside0.mk (blk_below (bq BK102.out) hb)
                                clear hb hbox hg
                                refine hK.out _ _ ⟨(blk_cell BK101.out 0).trans rfl, (blk_cell BK101.out 1).trans rfl, (blk_cell BK101.out 2).trans rfl, (blk_cell BK101.out 3).trans rfl, (blk_cell BK101.out 4).trans rfl, (blk_cell BK101.out 5).trans rfl⟩ (fun hHeld => ?_)
                                clear hK K
                                refine normS (some 3) ?_
                                exact norm_ qq1 (hJ11 (gb109) _ ⟨hHeld, (bq BK101.out), (bq BK102.out), (bq BK109.out), GW109.out, GE109.out, NB101_109.out, NB109_101.out, NB102_109.out, NB109_102.out, (qS3 GE101 GE102 GE109 HB.out)⟩)
                              skip
                              rintro gb109 w17 ⟨hS_, h0_, h1_, h2_, h3_, h4_, h5_, h6_, h7_, h8_, h9_⟩
                              have n0_ : Aside0 (w17.heap[gb101]? = some (.cells #[.int .i64 a0_0, .int .i64 a0_1, .int .i64 a0_2, .int .i64 a0_3, .int .i64 a0_4, .string a0_5] 28 (0, 0))) := ⟨h0_⟩
                              have n1_ : Aside0 (w17.heap[gb102]? = some (.cells #[.int .i64 0, .int .i64 0, .int .i64 0, .int .i64 0, .int .i64 0, .string (⟨#[]⟩ : ByteArray)] 28 (0, 0))) := ⟨h1_⟩
                              have n2_ : Aside0 (w17.heap[gb109]? = some (.cells #[.int .i64 0, .int .i64 0, .int .i64 0, .int .i64 0, .int .i64 0, .string (⟨#[]⟩ : ByteArray)] 28 (0, 0))) := ⟨h2_⟩
                              have n3_ : Aside0 (w.heap.size ≤ gb109) := ⟨h3_⟩
                              have n4_ : Aside0 (w.heap.size ≤ gb109) := ⟨h4_⟩
                              have n5_ : Aside0 (gb101 ≠ gb109) := ⟨h5_⟩
                              have n6_ : Aside0 (gb109 ≠ gb101) := ⟨h6_⟩
                              have n7_ : Aside0 (gb102 ≠ gb109) := ⟨h7_⟩
                              have n8_ : Aside0 (gb109 ≠ gb102) := ⟨h8_⟩
                              have n9_ : Aside0 (Below w.heap.size w w17) := ⟨h9_⟩
                              clear BK101
                              clear BK102
                              clear HB
                              clear h0_ h1_ h2_ h3_ h4_ h5_ h6_ h7_ h8_ h9_
                              have BK101 := n0_
                              have BK102 := n1_
                              have BK109 := n2_
                              have GW109 := n3_
                              have GE109 := n4_
                              have NB101_109 := n5_
                              have NB109_101 := n6_
                              have NB102_109 := n7_
                              have NB109_102 := n8_
                              have HB := n9_
                              clear n0_ n1_ n2_ n3_ n4_ n5_ n6_ n7_ n8_ n9_
                              have hHeld : w17.cell? ⟨gb101, 0, none⟩ = some (.int .i64 a0_0) ∧ w17.cell? ⟨gb101, 1, none⟩ = some (.int .i64 a0_1) ∧ w17.cell? ⟨gb101, 2, none⟩ = some (.int .i64 a0_2) ∧ w17.cell? ⟨gb101, 3, none⟩ = some (.int .i64 a0_3) ∧ w17.cell? ⟨gb101, 4, none⟩ = some (.int .i64 a0_4) ∧ w17.cell? ⟨gb101, 5, none⟩ = some (.string a0_5) := hS_
                              refine norm_ (a' := ?_) ?_ ?_
                              rotate_left
                              · simp only [putAll, Act.put, List.setIfInBounds_toArray, List.set_cons_zero, List.set_cons_succ]
                                rfl
                              refine two_ (i := 0) (j := 3) (Ni := some 5) (Nj := some 8) (bs 2247 13) (bs 2254 13) rfl rfl rfl rfl (two_of HT_.out (by kernel_rfl)) (by decide) (by decide) (fun K hK => ?_) (fun K hK => ?_)
                              rotate_left
                              · skip
                                refine goes_ Try.func19 (by kernel_rfl) rfl #[.int .i64 a0_0, .int .i64 7] (by rfl) rfl rfl qq0 ?_
                                with_reducible refine (partitalaw16_pick.calls a0_0 7 t106 _ A2.out).mono ?_
                                rintro e w' ⟨rfl, ⟨nd, rfl⟩⟩
                                refine ⟨_, rfl, ?_⟩
                                refine hK.out _ _ ⟨(blk_cell BK101.out 0).trans rfl, (blk_cell BK101.out 1).trans rfl, (blk_cell BK101.out 2).trans rfl, (blk_cell BK101.out 3).trans rfl, (blk_cell BK101.out 4).trans rfl, (blk_cell BK101.out 5).trans rfl⟩ (fun hHeld => ?_)
                                clear hK K
                                refine normS (some 8) ?_
                                exact norm_ qq1 (hJ3_11 (gb109) _ ⟨hHeld, (bq BK101.out), (bq BK102.out), (bq BK109.out), GW109.out, GE109.out, NB101_109.out, NB109_101.out, NB102_109.out, NB109_102.out, (qS3 GE101 GE102 GE109 HB.out)⟩)
                              skip
                              refine Kd.R_lit_step (Kd.int .i64) _ 3 ?hg (N := 5) ?hd (xs := ([0, 1, 96, 127, 128, 16384, 268435455] : List Int)) (inner := [.int .i64 0, .int .i64 1, .int .i64 96, .int .i64 127, .int .i64 128, .int .i64 16384, .int .i64 268435455]) (ok := fun _ => True) (okp := fun _ => True) ?hr ?hp (fun _ hk => hk) trivial (Below.refl _ _) (Nat.le_refl _) (by simp) ?_; (case hd => rfl); (case hg => rfl); (case hr => exact qq6); (case hp => exact qqa)
                              intro v104 w18 ho19 hb hg_ hnew_
                              clear hg_ hnew_
                              (first | rw [← Ny103.out] at ho19 | (simp only [Int.reduceToNat] at ho19; rw [← Ny103.out] at ho19))
                              have HO105 := Aside0.mk (Kd.R_lower ho19 (below_size (qS3 GE101 GE102 GE109 HB.out)))
                              replace BK101 := Aside0.mk (blk_below (bq BK101.out) hb)
                              replace BK102 := Aside0.mk (blk_below (bq BK102.out) hb)
                              replace BK109 := Aside0.mk (blk_below (bq BK109.out) hb)
                              replace HB := Aside0.mk (below_step (qS3 GE101 GE102 GE109 HB.out) hb)
                              clear hb ho19
                              obtain ⟨Ao20, co20, eo20⟩ := Kd.R_slice HO105.out
                              subst eo20
                              obtain ⟨ado20, fo20, _⟩ := Kd.at_int (Kd.R_reads' HO105.out).2.2 0 (by decide) qq1B
                              cases fo20
                              refine hK.out _ _ ⟨(blk_cell BK101.out 0).trans rfl, (blk_cell BK101.out 1).trans rfl, (blk_cell BK101.out 2).trans rfl, (blk_cell BK101.out 3).trans rfl, (blk_cell BK101.out 4).trans rfl, (blk_cell BK101.out 5).trans rfl⟩ (fun hHeld => ?_)
                              clear hK K
                              refine normS (some 5) ?_
                              exact norm_ qq1 (hJ0_11 (.slice (some ado20) y103.length co20, ado20, gb109) _ ⟨hHeld, (qR HO105.out), ⟨_, rfl⟩, (bq BK101.out), (bq BK102.out), (bq BK109.out), GW109.out, GE109.out, NB101_109.out, NB109_101.out, NB102_109.out, NB109_102.out, (qS3 GE101 GE102 GE109 HB.out)⟩)
                            skip
                            rintro _ w16 ⟨hS_, h0_, h1_, h2_⟩
                            have n0_ : Aside0 (w16.heap[gb101]? = some (.cells #[.int .i64 a0_0, .int .i64 a0_1, .int .i64 a0_2, .int .i64 a0_3, .int .i64 a0_4, .string a0_5] 28 (0, 0))) := ⟨h0_⟩
                            have n1_ : Aside0 (w16.heap[gb102]? = some (.cells #[.int .i64 0, .int .i64 0, .int .i64 0, .int .i64 0, .int .i64 0, .string (⟨#[]⟩ : ByteArray)] 28 (0, 0))) := ⟨h1_⟩
                            have n2_ : Aside0 (Below w.heap.size w w16) := ⟨h2_⟩
                            clear BK101
                            clear BK102
                            clear HB
                            clear h0_ h1_ h2_
                            have BK101 := n0_
                            have BK102 := n1_
                            have HB := n2_
                            clear n0_ n1_ n2_
                            have hHeld : w16.cell? ⟨gb101, 0, none⟩ = some (.int .i64 a0_0) ∧ w16.cell? ⟨gb101, 1, none⟩ = some (.int .i64 a0_1) ∧ w16.cell? ⟨gb101, 2, none⟩ = some (.int .i64 a0_2) ∧ w16.cell? ⟨gb101, 3, none⟩ = some (.int .i64 a0_3) ∧ w16.cell? ⟨gb101, 4, none⟩ = some (.int .i64 a0_4) ∧ w16.cell? ⟨gb101, 5, none⟩ = some (.string a0_5) := hS_
                            refine norm_ (a' := ?_) ?_ ?_
                            rotate_left
                            · simp only [putAll, Act.put, List.setIfInBounds_toArray, List.set_cons_zero, List.set_cons_succ]
                              rfl
                            refine three_ (i := 0) (j := 8) (k := 11) (Ni := some 5) (Nj := some 13) (Nk := some 3) (bs 207 13) (bs 462 13) (bs 2254 13) rfl rfl rfl rfl rfl rfl (three_of HT_.out (by kernel_rfl)) (by decide) (by decide) (by decide) (fun K hK => ?_) (fun K hK => ?_) (fun K hK => ?_)
                            · skip
                              refine Kd.R_lit_step (Kd.int .i64) _ 3 ?hg (N := 5) ?hd (xs := ([0, 1, 96, 127, 128, 16384, 268435455] : List Int)) (inner := [.int .i64 0, .int .i64 1, .int .i64 96, .int .i64 127, .int .i64 128, .int .i64 16384, .int .i64 268435455]) (ok := fun _ => True) (okp := fun _ => True) ?hr ?hp (fun _ hk => hk) trivial (Below.refl _ _) (Nat.le_refl _) (by simp) ?_; (case hd => rfl); (case hg => rfl); (case hr => exact qq6); (case hp => exact qqa)
                              intro v104 w17 ho18 hb hg_ hnew_
                              clear hg_ hnew_
                              (first | rw [← Ny103.out] at ho18 | (simp only [Int.reduceToNat] at ho18; rw [← Ny103.out] at ho18))
                              have HO105 := Aside0.mk (Kd.R_lower ho18 (below_size (qS2 GE101 GE102 HB.out)))
                              replace BK101 := Aside0.mk (blk_below (bq BK101.out) hb)
                              replace BK102 := Aside0.mk (blk_below (bq BK102.out) hb)
                              replace HB := Aside0.mk (below_step (qS2 GE101 GE102 HB.out) hb)
                              clear hb ho18
                              obtain ⟨Ao19, co19, eo19⟩ := Kd.R_slice HO105.out
                              subst eo19
                              obtain ⟨ado19, fo19, _⟩ := Kd.at_int (Kd.R_reads' HO105.out).2.2 0 (by decide) qq1B
                              cases fo19
                              refine hK.out _ _ ⟨(blk_cell BK101.out 0).trans rfl, (blk_cell BK101.out 1).trans rfl, (blk_cell BK101.out 2).trans rfl, (blk_cell BK101.out 3).trans rfl, (blk_cell BK101.out 4).trans rfl, (blk_cell BK101.out 5).trans rfl⟩ (fun hHeld => ?_)
                              clear hK K
                              refine normS (some 5) ?_
                              refine pureS 4 (some 9) (bs 223 13) ?_
                              exact norm_ qq1 (hJ0_3 (.slice (some ado19) y103.length co19, ado19) _ ⟨hHeld, (qR HO105.out), ⟨_, rfl⟩, (bq BK101.out), (bq BK102.out), (qS2 GE101 GE102 HB.out)⟩)
                            · skip
                              refine goes_ Try.func19 (by kernel_rfl) rfl #[.int .i64 a0_1, .int .i64 9] (by rfl) rfl rfl qq0 ?_
                              with_reducible refine (partitalaw16_pick.calls a0_1 9 t108 _ A5.out).mono ?_
                              rintro e w' ⟨rfl, ⟨nd, rfl⟩⟩
                              refine ⟨_, rfl, ?_⟩
                              refine hK.out _ _ ⟨(blk_cell BK101.out 0).trans rfl, (blk_cell BK101.out 1).trans rfl, (blk_cell BK101.out 2).trans rfl, (blk_cell BK101.out 3).trans rfl, (blk_cell BK101.out 4).trans rfl, (blk_cell BK101.out 5).trans rfl⟩ (fun hHeld => ?_)
                              clear hK K
                              refine normS (some 13) ?_
                              refine pureS 9 (some 14) (bs 974 13) ?_
                              exact norm_ qq1 (hJ3_8 () _ ⟨hHeld, (bq BK101.out), (bq BK102.out), (qS2 GE101 GE102 HB.out)⟩)
                            skip
                            refine box_step ?hg (N := 3) ?hd (cs := #[.int .i64 0, .int .i64 0, .int .i64 0, .int .i64 0, .int .i64 0, .string (⟨#[]⟩ : ByteArray)]) (t := 28) ?hr ?_; (case hd => rfl); (case hg => rfl); (case hr => exact qq6)
                            intro gb109 hg w17 hbox hb
                            have BK109 := Aside0.mk (hbox)
                            have GW109 := Aside0.mk ((qqe : w.heap.size ≤ gb109))
                            have GE109 := Aside0.mk ((qqe : w.heap.size ≤ gb109))
                            replace HB := Aside0.mk (below_step (qS2 GE101 GE102 HB.out) hb)
                            have NB101_109 := Aside0.mk ((qqb : gb101 ≠ gb109))
                            have NB109_101 := Aside0.mk ((qqc : gb109 ≠ gb101))
                            replace BK101 := Aside0.mk (blk_below (bq BK101.out) hb)
                            have NB102_109 := Aside0.mk ((qqk : gb102 ≠ gb109))
                            have NB109_102 := Aside0.mk ((qql : gb109 ≠ gb102))
                            replace BK102 := Aside0.mk (blk_below (bq BK102.out) hb)
                            clear hb hbox hg
                            refine hK.out _ _ ⟨(blk_cell BK101.out 0).trans rfl, (blk_cell BK101.out 1).trans rfl, (blk_cell BK101.out 2).trans rfl, (blk_cell BK101.out 3).trans rfl, (blk_cell BK101.out 4).trans rfl, (blk_cell BK101.out 5).trans rfl⟩ (fun hHeld => ?_)
                            clear hK K
                            refine normS (some 3) ?_
                            exact norm_ qq1 (hJ3_11 (gb109) _ ⟨hHeld, (bq BK101.out), (bq BK102.out), (bq BK109.out), GW109.out, GE109.out, NB101_109.out, NB109_101.out, NB102_109.out, NB109_102.out, (qS3 GE101 GE102 GE109 HB.out)⟩)
                          skip
                          rintro ⟨v104, adz_v104⟩ w19 ⟨hS_, h0_, h1_, h2_, h3_, h4_⟩
                          have n0_ : Aside0 (Kd.R (Kd.int .i64) 3 w19 w.heap.size (fun _ => True) v104 y103) := ⟨h0_⟩
                          have n1_ : Aside0 (∃ c_, (v104 : Value) = .slice (some adz_v104) y103.length c_) := ⟨h1_⟩
                          have n2_ : Aside0 (w19.heap[gb101]? = some (.cells #[.int .i64 a0_0, .int .i64 a0_1, .int .i64 a0_2, .int .i64 a0_3, .int .i64 a0_4, .string a0_5] 28 (0, 0))) := ⟨h2_⟩
                          have n3_ : Aside0 (w19.heap[gb102]? = some (.cells #[.int .i64 0, .int .i64 0, .int .i64 0, .int .i64 0, .int .i64 0, .string (⟨#[]⟩ : ByteArray)] 28 (0, 0))) := ⟨h3_⟩
                          have n4_ : Aside0 (Below w.heap.size w w19) := ⟨h4_⟩
                          clear BK101
                          clear BK102
                          clear HB
                          clear h0_ h1_ h2_ h3_ h4_
                          have HO105 := n0_
                          have HA_HO105 := n1_
                          have BK101 := n2_
                          have BK102 := n3_
                          have HB := n4_
                          clear n0_ n1_ n2_ n3_ n4_
                          have hHeld : w19.cell? ⟨gb101, 0, none⟩ = some (.int .i64 a0_0) ∧ w19.cell? ⟨gb101, 1, none⟩ = some (.int .i64 a0_1) ∧ w19.cell? ⟨gb101, 2, none⟩ = some (.int .i64 a0_2) ∧ w19.cell? ⟨gb101, 3, none⟩ = some (.int .i64 a0_3) ∧ w19.cell? ⟨gb101, 4, none⟩ = some (.int .i64 a0_4) ∧ w19.cell? ⟨gb101, 5, none⟩ = some (.string a0_5) := hS_
                          obtain ⟨co20, eo20⟩ := HA_HO105.out
                          clear HA_HO105
                          subst eo20
                          refine norm_ (a' := ?_) ?_ ?_
                          rotate_left
                          · simp only [putAll, Act.put, List.setIfInBounds_toArray, List.set_cons_zero, List.set_cons_succ]
                            rfl
                          refine two_ (i := 3) (j := 11) (Ni := some 8) (Nj := some 3) (bs 207 13) (bs 2247 13) rfl rfl rfl rfl (two_of HT_.out (by kernel_rfl)) (by decide) (by decide) (fun K hK => ?_) (fun K hK => ?_)
                          · skip
                            refine goes_ Try.func19 (by kernel_rfl) rfl #[.int .i64 a0_0, .int .i64 7] (by rfl) rfl rfl qq0 ?_
                            with_reducible refine (partitalaw16_pick.calls a0_0 7 t106 _ A2.out).mono ?_
                            rintro e w' ⟨rfl, ⟨nd, rfl⟩⟩
                            refine ⟨_, rfl, ?_⟩
                            refine hK.out _ _ ⟨(blk_cell BK101.out 0).trans rfl, (blk_cell BK101.out 1).trans rfl, (blk_cell BK101.out 2).trans rfl, (blk_cell BK101.out 3).trans rfl, (blk_cell BK101.out 4).trans rfl, (blk_cell BK101.out 5).trans rfl⟩ (fun hHeld => ?_)
                            clear hK K
                            refine normS (some 8) ?_
                            refine pureS 4 (some 9) (bs 223 13) ?_
                            exact norm_ qq1 (hJ0_3 (.slice (some adz_v104) y103.length co20, adz_v104) _ ⟨hHeld, (qR HO105.out), ⟨_, rfl⟩, (bq BK101.out), (bq BK102.out), (qS2 GE101 GE102 HB.out)⟩)
                          skip
                          refine box_step ?hg (N := 3) ?hd (cs := #[.int .i64 0, .int .i64 0, .int .i64 0, .int .i64 0, .int .i64 0, .string (⟨#[]⟩ : ByteArray)]) (t := 28) ?hr ?_; (case hd => rfl); (case hg => rfl); (case hr => exact qq6)
                          intro gb109 hg w21 hbox hb
                          replace HO105 := Aside0.mk (Kd.R_below (qR HO105.out) hb)
                          have BK109 := Aside0.mk (hbox)
                          have GW109 := Aside0.mk ((qqe : w.heap.size ≤ gb109))
                          have GE109 := Aside0.mk ((qqe : w.heap.size ≤ gb109))
                          replace HB := Aside0.mk (below_step (qS2 GE101 GE102 HB.out) hb)
                          have NB101_109 := Aside0.mk ((qqb : gb101 ≠ gb109))
                          have NB109_101 := Aside0.mk ((qqc : gb109 ≠ gb101))
                          replace BK101 := Aside0.mk (blk_below (bq BK101.out) hb)
                          have NB102_109 := Aside0.mk ((qqk : gb102 ≠ gb109))
                          have NB109_102 := Aside0.mk ((qql : gb109 ≠ gb102))
                          replace BK102 := Aside0.mk (blk_below (bq BK102.out) hb)
                          clear hb hbox hg
                          refine hK.out _ _ ⟨(blk_cell BK101.out 0).trans rfl, (blk_cell BK101.out 1).trans rfl, (blk_cell BK101.out 2).trans rfl, (blk_cell BK101.out 3).trans rfl, (blk_cell BK101.out 4).trans rfl, (blk_cell BK101.out 5).trans rfl⟩ (fun hHeld => ?_)
                          clear hK K
                          refine normS (some 3) ?_
                          exact norm_ qq1 (hJ0_11 (.slice (some adz_v104) y103.length co20, adz_v104, gb109) _ ⟨hHeld, (qR HO105.out), ⟨_, rfl⟩, (bq BK101.out), (bq BK102.out), (bq BK109.out), GW109.out, GE109.out, NB101_109.out, NB109_101.out, NB102_109.out, NB109_102.out, (qS3 GE101 GE102 GE109 HB.out)⟩)
                        skip
                        rintro gb109 w17 ⟨hS_, h0_, h1_, h2_, h3_, h4_, h5_, h6_, h7_, h8_, h9_⟩
                        have n0_ : Aside0 (w17.heap[gb101]? = some (.cells #[.int .i64 a0_0, .int .i64 a0_1, .int .i64 a0_2, .int .i64 a0_3, .int .i64 a0_4, .string a0_5] 28 (0, 0))) := ⟨h0_⟩
                        have n1_ : Aside0 (w17.heap[gb102]? = some (.cells #[.int .i64 0, .int .i64 0, .int .i64 0, .int .i64 0, .int .i64 0, .string (⟨#[]⟩ : ByteArray)] 28 (0, 0))) := ⟨h1_⟩
                        have n2_ : Aside0 (w17.heap[gb109]? = some (.cells #[.int .i64 0, .int .i64 0, .int .i64 0, .int .i64 0, .int .i64 0, .string (⟨#[]⟩ : ByteArray)] 28 (0, 0))) := ⟨h2_⟩
                        have n3_ : Aside0 (w.heap.size ≤ gb109) := ⟨h3_⟩
                        have n4_ : Aside0 (w.heap.size ≤ gb109) := ⟨h4_⟩
                        have n5_ : Aside0 (gb101 ≠ gb109) := ⟨h5_⟩
                        have n6_ : Aside0 (gb109 ≠ gb101) := ⟨h6_⟩
                        have n7_ : Aside0 (gb102 ≠ gb109) := ⟨h7_⟩
                        have n8_ : Aside0 (gb109 ≠ gb102) := ⟨h8_⟩
                        have n9_ : Aside0 (Below w.heap.size w w17) := ⟨h9_⟩
                        clear BK101
                        clear BK102
                        clear HB
                        clear h0_ h1_ h2_ h3_ h4_ h5_ h6_ h7_ h8_ h9_
                        have BK101 := n0_
                        have BK102 := n1_
                        have BK109 := n2_
                        have GW109 := n3_
                        have GE109 := n4_
                        have NB101_109 := n5_
                        have NB109_101 := n6_
                        have NB102_109 := n7_
                        have NB109_102 := n8_
                        have HB := n9_
                        clear n0_ n1_ n2_ n3_ n4_ n5_ n6_ n7_ n8_ n9_
                        have hHeld : w17.cell? ⟨gb101, 0, none⟩ = some (.int .i64 a0_0) ∧ w17.cell? ⟨gb101, 1, none⟩ = some (.int .i64 a0_1) ∧ w17.cell? ⟨gb101, 2, none⟩ = some (.int .i64 a0_2) ∧ w17.cell? ⟨gb101, 3, none⟩ = some (.int .i64 a0_3) ∧ w17.cell? ⟨gb101, 4, none⟩ = some (.int .i64 a0_4) ∧ w17.cell? ⟨gb101, 5, none⟩ = some (.string a0_5) := hS_
                        refine norm_ (a' := ?_) ?_ ?_
                        rotate_left
                        · simp only [putAll, Act.put, List.setIfInBounds_toArray, List.set_cons_zero, List.set_cons_succ]
                          rfl
                        refine two_ (i := 0) (j := 8) (Ni := some 5) (Nj := some 13) (bs 2255 13) (bs 2510 13) rfl rfl rfl rfl (two_of HT_.out (by kernel_rfl)) (by decide) (by decide) (fun K hK => ?_) (fun K hK => ?_)
                        rotate_left
                        · skip
                          refine goes_ Try.func19 (by kernel_rfl) rfl #[.int .i64 a0_1, .int .i64 9] (by rfl) rfl rfl qq0 ?_
                          with_reducible refine (partitalaw16_pick.calls a0_1 9 t108 _ A5.out).mono ?_
                          rintro e w' ⟨rfl, ⟨nd, rfl⟩⟩
                          refine ⟨_, rfl, ?_⟩
                          refine hK.out _ _ ⟨(blk_cell BK101.out 0).trans rfl, (blk_cell BK101.out 1).trans rfl, (blk_cell BK101.out 2).trans rfl, (blk_cell BK101.out 3).trans rfl, (blk_cell BK101.out 4).trans rfl, (blk_cell BK101.out 5).trans rfl⟩ (fun hHeld => ?_)
                          clear hK K
                          refine normS (some 13) ?_
                          refine pureS 9 (some 14) (bs 3022 13) ?_
                          exact norm_ qq1 (hJ3_8_11 (gb109) _ ⟨hHeld, (bq BK101.out), (bq BK102.out), (bq BK109.out), GW109.out, GE109.out, NB101_109.out, NB109_101.out, NB102_109.out, NB109_102.out, (qS3 GE101 GE102 GE109 HB.out)⟩)
                        skip
                        refine Kd.R_lit_step (Kd.int .i64) _ 3 ?hg (N := 5) ?hd (xs := ([0, 1, 96, 127, 128, 16384, 268435455] : List Int)) (inner := [.int .i64 0, .int .i64 1, .int .i64 96, .int .i64 127, .int .i64 128, .int .i64 16384, .int .i64 268435455]) (ok := fun _ => True) (okp := fun _ => True) ?hr ?hp (fun _ hk => hk) trivial (Below.refl _ _) (Nat.le_refl _) (by simp) ?_; (case hd => rfl); (case hg => rfl); (case hr => exact qq6); (case hp => exact qqa)
                        intro v104 w18 ho19 hb hg_ hnew_
                        clear hg_ hnew_
                        (first | rw [← Ny103.out] at ho19 | (simp only [Int.reduceToNat] at ho19; rw [← Ny103.out] at ho19))
                        have HO105 := Aside0.mk (Kd.R_lower ho19 (below_size (qS3 GE101 GE102 GE109 HB.out)))
                        replace BK101 := Aside0.mk (blk_below (bq BK101.out) hb)
                        replace BK102 := Aside0.mk (blk_below (bq BK102.out) hb)
                        replace BK109 := Aside0.mk (blk_below (bq BK109.out) hb)
                        replace HB := Aside0.mk (below_step (qS3 GE101 GE102 GE109 HB.out) hb)
                        clear hb ho19
                        obtain ⟨Ao20, co20, eo20⟩ := Kd.R_slice HO105.out
                        subst eo20
                        obtain ⟨ado20, fo20, _⟩ := Kd.at_int (Kd.R_reads' HO105.out).2.2 0 (by decide) qq1B
                        cases fo20
                        refine hK.out _ _ ⟨(blk_cell BK101.out 0).trans rfl, (blk_cell BK101.out 1).trans rfl, (blk_cell BK101.out 2).trans rfl, (blk_cell BK101.out 3).trans rfl, (blk_cell BK101.out 4).trans rfl, (blk_cell BK101.out 5).trans rfl⟩ (fun hHeld => ?_)
                        clear hK K
                        refine normS (some 5) ?_
                        refine pureS 4 (some 9) (bs 2271 13) ?_
                        exact norm_ qq1 (hJ0_3_11 (.slice (some ado20) y103.length co20, ado20, gb109) _ ⟨hHeld, (qR HO105.out), ⟨_, rfl⟩, (bq BK101.out), (bq BK102.out), (bq BK109.out), GW109.out, GE109.out, NB101_109.out, NB109_101.out, NB102_109.out, NB109_102.out, (qS3 GE101 GE102 GE109 HB.out)⟩)
                      skip
                      rintro _ w16 ⟨hS_, h0_, h1_, h2_⟩
                      have n0_ : Aside0 (w16.heap[gb101]? = some (.cells #[.int .i64 a0_0, .int .i64 a0_1, .int .i64 a0_2, .int .i64 a0_3, .int .i64 a0_4, .string a0_5] 28 (0, 0))) := ⟨h0_⟩
                      have n1_ : Aside0 (w16.heap[gb102]? = some (.cells #[.int .i64 0, .int .i64 0, .int .i64 0, .int .i64 0, .int .i64 0, .string (⟨#[]⟩ : ByteArray)] 28 (0, 0))) := ⟨h1_⟩
                      have n2_ : Aside0 (Below w.heap.size w w16) := ⟨h2_⟩
                      clear BK101
                      clear BK102
                      clear HB
                      clear h0_ h1_ h2_
                      have BK101 := n0_
                      have BK102 := n1_
                      have HB := n2_
                      clear n0_ n1_ n2_
                      have hHeld : w16.cell? ⟨gb101, 0, none⟩ = some (.int .i64 a0_0) ∧ w16.cell? ⟨gb101, 1, none⟩ = some (.int .i64 a0_1) ∧ w16.cell? ⟨gb101, 2, none⟩ = some (.int .i64 a0_2) ∧ w16.cell? ⟨gb101, 3, none⟩ = some (.int .i64 a0_3) ∧ w16.cell? ⟨gb101, 4, none⟩ = some (.int .i64 a0_4) ∧ w16.cell? ⟨gb101, 5, none⟩ = some (.string a0_5) := hS_
                      refine norm_ (a' := ?_) ?_ ?_
                      rotate_left
                      · simp only [putAll, Act.put, List.setIfInBounds_toArray, List.set_cons_zero, List.set_cons_succ]
                        rfl
                      refine two_ (i := 0) (j := 11) (Ni := some 5) (Nj := some 3) (bs 975 13) (bs 3022 13) rfl rfl rfl rfl (two_of HT_.out (by kernel_rfl)) (by decide) (by decide) (fun K hK => ?_) (fun K hK => ?_)
                      rotate_left
                      · skip
                        refine box_step ?hg (N := 3) ?hd (cs := #[.int .i64 0, .int .i64 0, .int .i64 0, .int .i64 0, .int .i64 0, .string (⟨#[]⟩ : ByteArray)]) (t := 28) ?hr ?_; (case hd => rfl); (case hg => rfl); (case hr => exact qq6)
                        intro gb109 hg w17 hbox hb
                        have BK109 := Aside0.mk (hbox)
                        have GW109 := Aside0.mk ((qqe : w.heap.size ≤ gb109))
                        have GE109 := Aside0.mk ((qqe : w.heap.size ≤ gb109))
                        replace HB := Aside0.mk (below_step (qS2 GE101 GE102 HB.out) hb)
                        have NB101_109 := Aside0.mk ((qqb : gb101 ≠ gb109))
                        have NB109_101 := Aside0.mk ((qqc : gb109 ≠ gb101))
                        replace BK101 := Aside0.mk (blk_below (bq BK101.out) hb)
                        have NB102_109 := Aside0.mk ((qqk : gb102 ≠ gb109))
                        have NB109_102 := Aside0.mk ((qql : gb109 ≠ gb102))
                        replace BK102 := Aside0.mk (blk_below (bq BK102.out) hb)
                        clear hb hbox hg
                        refine hK.out _ _ ⟨(blk_cell BK101.out 0).trans rfl, (blk_cell BK101.out 1).trans rfl, (blk_cell BK101.out 2).trans rfl, (blk_cell BK101.out 3).trans rfl, (blk_cell BK101.out 4).trans rfl, (blk_cell BK101.out 5).trans rfl⟩ (fun hHeld => ?_)
                        clear hK K
                        refine normS (some 3) ?_
                        exact norm_ qq1 (hJ3_8_11 (gb109) _ ⟨hHeld, (bq BK101.out), (bq BK102.out), (bq BK109.out), GW109.out, GE109.out, NB101_109.out, NB109_101.out, NB102_109.out, NB109_102.out, (qS3 GE101 GE102 GE109 HB.out)⟩)
                      skip
                      refine Kd.R_lit_step (Kd.int .i64) _ 3 ?hg (N := 5) ?hd (xs := ([0, 1, 96, 127, 128, 16384, 268435455] : List Int)) (inner := [.int .i64 0, .int .i64 1, .int .i64 96, .int .i64 127, .int .i64 128, .int .i64 16384, .int .i64 268435455]) (ok := fun _ => True) (okp := fun _ => True) ?hr ?hp (fun _ hk => hk) trivial (Below.refl _ _) (Nat.le_refl _) (by simp) ?_; (case hd => rfl); (case hg => rfl); (case hr => exact qq6); (case hp => exact qqa)
                      intro v104 w17 ho18 hb hg_ hnew_
                      clear hg_ hnew_
                      (first | rw [← Ny103.out] at ho18 | (simp only [Int.reduceToNat] at ho18; rw [← Ny103.out] at ho18))
                      have HO105 := Aside0.mk (Kd.R_lower ho18 (below_size (qS2 GE101 GE102 HB.out)))
                      replace BK101 := Aside0.mk (blk_below (bq BK101.out) hb)
                      replace BK102 := Aside0.mk (blk_below (bq BK102.out) hb)
                      replace HB := Aside0.mk (below_step (qS2 GE101 GE102 HB.out) hb)
                      clear hb ho18
                      obtain ⟨Ao19, co19, eo19⟩ := Kd.R_slice HO105.out
                      subst eo19
                      obtain ⟨ado19, fo19, _⟩ := Kd.at_int (Kd.R_reads' HO105.out).2.2 0 (by decide) qq1B
                      cases fo19
                      refine hK.out _ _ ⟨(blk_cell BK101.out 0).trans rfl, (blk_cell BK101.out 1).trans rfl, (blk_cell BK101.out 2).trans rfl, (blk_cell BK101.out 3).trans rfl, (blk_cell BK101.out 4).trans rfl, (blk_cell BK101.out 5).trans rfl⟩ (fun hHeld => ?_)
                      clear hK K
                      refine normS (some 5) ?_
                      refine pureS 4 (some 9) (bs 991 13) ?_
                      exact norm_ qq1 (hJ0_3_8 (.slice (some ado19) y103.length co19, ado19) _ ⟨hHeld, (qR HO105.out), ⟨_, rfl⟩, (bq BK101.out), (bq BK102.out), (qS2 GE101 GE102 HB.out)⟩)
                    skip
                    rintro ⟨v104, adz_v104, gb109⟩ w20 ⟨hS_, h0_, h1_, h2_, h3_, h4_, h5_, h6_, h7_, h8_, h9_, h10_, h11_⟩
                    have n0_ : Aside0 (Kd.R (Kd.int .i64) 3 w20 w.heap.size (fun _ => True) v104 y103) := ⟨h0_⟩
                    have n1_ : Aside0 (∃ c_, (v104 : Value) = .slice (some adz_v104) y103.length c_) := ⟨h1_⟩
                    have n2_ : Aside0 (w20.heap[gb101]? = some (.cells #[.int .i64 a0_0, .int .i64 a0_1, .int .i64 a0_2, .int .i64 a0_3, .int .i64 a0_4, .string a0_5] 28 (0, 0))) := ⟨h2_⟩
                    have n3_ : Aside0 (w20.heap[gb102]? = some (.cells #[.int .i64 0, .int .i64 0, .int .i64 0, .int .i64 0, .int .i64 0, .string (⟨#[]⟩ : ByteArray)] 28 (0, 0))) := ⟨h3_⟩
                    have n4_ : Aside0 (w20.heap[gb109]? = some (.cells #[.int .i64 0, .int .i64 0, .int .i64 0, .int .i64 0, .int .i64 0, .string (⟨#[]⟩ : ByteArray)] 28 (0, 0))) := ⟨h4_⟩
                    have n5_ : Aside0 (w.heap.size ≤ gb109) := ⟨h5_⟩
                    have n6_ : Aside0 (w.heap.size ≤ gb109) := ⟨h6_⟩
                    have n7_ : Aside0 (gb101 ≠ gb109) := ⟨h7_⟩
                    have n8_ : Aside0 (gb109 ≠ gb101) := ⟨h8_⟩
                    have n9_ : Aside0 (gb102 ≠ gb109) := ⟨h9_⟩
                    have n10_ : Aside0 (gb109 ≠ gb102) := ⟨h10_⟩
                    have n11_ : Aside0 (Below w.heap.size w w20) := ⟨h11_⟩
                    clear BK101
                    clear BK102
                    clear HB
                    clear h0_ h1_ h2_ h3_ h4_ h5_ h6_ h7_ h8_ h9_ h10_ h11_
                    have HO105 := n0_
                    have HA_HO105 := n1_
                    have BK101 := n2_
                    have BK102 := n3_
                    have BK109 := n4_
                    have GW109 := n5_
                    have GE109 := n6_
                    have NB101_109 := n7_
                    have NB109_101 := n8_
                    have NB102_109 := n9_
                    have NB109_102 := n10_
                    have HB := n11_
                    clear n0_ n1_ n2_ n3_ n4_ n5_ n6_ n7_ n8_ n9_ n10_ n11_
                    have hHeld : w20.cell? ⟨gb101, 0, none⟩ = some (.int .i64 a0_0) ∧ w20.cell? ⟨gb101, 1, none⟩ = some (.int .i64 a0_1) ∧ w20.cell? ⟨gb101, 2, none⟩ = some (.int .i64 a0_2) ∧ w20.cell? ⟨gb101, 3, none⟩ = some (.int .i64 a0_3) ∧ w20.cell? ⟨gb101, 4, none⟩ = some (.int .i64 a0_4) ∧ w20.cell? ⟨gb101, 5, none⟩ = some (.string a0_5) := hS_
                    obtain ⟨co21, eo21⟩ := HA_HO105.out
                    clear HA_HO105
                    subst eo21
                    refine norm_ (a' := ?_) ?_ ?_
                    rotate_left
                    · simp only [putAll, Act.put, List.setIfInBounds_toArray, List.set_cons_zero, List.set_cons_succ]
                      rfl
                    refine one_ (i := 3) (N := some 8) (bs 2255 13) rfl rfl (one_of HT_.out (by kernel_rfl)) (by decide) (fun K hK => ?_)
                    refine goes_ Try.func19 (by kernel_rfl) rfl #[.int .i64 a0_0, .int .i64 7] (by rfl) rfl rfl qq0 ?_
                    with_reducible refine (partitalaw16_pick.calls a0_0 7 t106 _ A2.out).mono ?_
                    rintro e w' ⟨rfl, ⟨nd, rfl⟩⟩
                    refine ⟨_, rfl, ?_⟩
                    refine hK.out _ _ ⟨(blk_cell BK101.out 0).trans rfl, (blk_cell BK101.out 1).trans rfl, (blk_cell BK101.out 2).trans rfl, (blk_cell BK101.out 3).trans rfl, (blk_cell BK101.out 4).trans rfl, (blk_cell BK101.out 5).trans rfl⟩ (fun hHeld => ?_)
                    clear hK K
                    refine normS (some 8) ?_
                    refine pureS 4 (some 9) (bs 2271 13) ?_
                    exact norm_ qq1 (hJ0_3_11 (.slice (some adz_v104) y103.length co21, adz_v104, gb109) _ ⟨hHeld, (qR HO105.out), ⟨_, rfl⟩, (bq BK101.out), (bq BK102.out), (bq BK109.out), GW109.out, GE109.out, NB101_109.out, NB109_101.out, NB102_109.out, NB109_102.out, (qS3 GE101 GE102 GE109 HB.out)⟩)
                  skip
                  rintro ⟨v104, adz_v104⟩ w19 ⟨hS_, h0_, h1_, h2_, h3_, h4_⟩
                  have n0_ : Aside0 (Kd.R (Kd.int .i64) 3 w19 w.heap.size (fun _ => True) v104 y103) := ⟨h0_⟩
                  have n1_ : Aside0 (∃ c_, (v104 : Value) = .slice (some adz_v104) y103.length c_) := ⟨h1_⟩
                  have n2_ : Aside0 (w19.heap[gb101]? = some (.cells #[.int .i64 a0_0, .int .i64 a0_1, .int .i64 a0_2, .int .i64 a0_3, .int .i64 a0_4, .string a0_5] 28 (0, 0))) := ⟨h2_⟩
                  have n3_ : Aside0 (w19.heap[gb102]? = some (.cells #[.int .i64 0, .int .i64 0, .int .i64 0, .int .i64 0, .int .i64 0, .string (⟨#[]⟩ : ByteArray)] 28 (0, 0))) := ⟨h3_⟩
                  have n4_ : Aside0 (Below w.heap.size w w19) := ⟨h4_⟩
                  clear BK101
                  clear BK102
                  clear HB
                  clear h0_ h1_ h2_ h3_ h4_
                  have HO105 := n0_
                  have HA_HO105 := n1_
                  have BK101 := n2_
                  have BK102 := n3_
                  have HB := n4_
                  clear n0_ n1_ n2_ n3_ n4_
                  have hHeld : w19.cell? ⟨gb101, 0, none⟩ = some (.int .i64 a0_0) ∧ w19.cell? ⟨gb101, 1, none⟩ = some (.int .i64 a0_1) ∧ w19.cell? ⟨gb101, 2, none⟩ = some (.int .i64 a0_2) ∧ w19.cell? ⟨gb101, 3, none⟩ = some (.int .i64 a0_3) ∧ w19.cell? ⟨gb101, 4, none⟩ = some (.int .i64 a0_4) ∧ w19.cell? ⟨gb101, 5, none⟩ = some (.string a0_5) := hS_
                  obtain ⟨co20, eo20⟩ := HA_HO105.out
                  clear HA_HO105
                  subst eo20
                  refine norm_ (a' := ?_) ?_ ?_
                  rotate_left
                  · simp only [putAll, Act.put, List.setIfInBounds_toArray, List.set_cons_zero, List.set_cons_succ]
                    rfl
                  refine three_ (i := 5) (j := 8) (k := 11) (Ni := some 10) (Nj := some 13) (Nk := some 3) (bs 255 13) (bs 479 13) (bs 2271 13) rfl rfl rfl rfl rfl rfl (three_of HT_.out (by kernel_rfl)) (by decide) (by decide) (by decide) (fun K hK => ?_) (fun K hK => ?_) (fun K hK => ?_)
                  · skip
                    (have p107 : 0 ≤ (t106 : Int) := of_decide_eq_true qq4; have q107 : t106 < (y103.length : Int) := of_decide_eq_true qq4; obtain ⟨ad107, e107, hx107_0⟩ := Kd.at_int (Kd.R_reads' HO105.out).2.2 t106 p107 q107; obtain rfl : adz_v104 = ad107 := (by injection e107))
                    refine value_ (w1 := ?_) (v := ?_) (by rfl) rfl ?_ ?_
                    rotate_left 2
                    · go_simp
                      constructor
                      · rfl
                      rfl
                    clear hx107_0
                    refine hK.out _ _ ⟨(blk_cell BK101.out 0).trans rfl, (blk_cell BK101.out 1).trans rfl, (blk_cell BK101.out 2).trans rfl, (blk_cell BK101.out 3).trans rfl, (blk_cell BK101.out 4).trans rfl, (blk_cell BK101.out 5).trans rfl⟩ (fun hHeld => ?_)
                    clear hK K
                    refine normS (some 10) ?_
                    exact norm_ qq1 (hJ0_3_5 (.slice (some adz_v104) y103.length co20, adz_v104) _ ⟨hHeld, (qR HO105.out), ⟨_, rfl⟩, (bq BK101.out), (bq BK102.out), (qS2 GE101 GE102 HB.out)⟩)
                  · skip
                    refine goes_ Try.func19 (by kernel_rfl) rfl #[.int .i64 a0_1, .int .i64 9] (by rfl) rfl rfl qq0 ?_
                    with_reducible refine (partitalaw16_pick.calls a0_1 9 t108 _ A5.out).mono ?_
                    rintro e w' ⟨rfl, ⟨nd, rfl⟩⟩
                    refine ⟨_, rfl, ?_⟩
                    refine hK.out _ _ ⟨(blk_cell BK101.out 0).trans rfl, (blk_cell BK101.out 1).trans rfl, (blk_cell BK101.out 2).trans rfl, (blk_cell BK101.out 3).trans rfl, (blk_cell BK101.out 4).trans rfl, (blk_cell BK101.out 5).trans rfl⟩ (fun hHeld => ?_)
                    clear hK K
                    refine normS (some 13) ?_
                    refine pureS 9 (some 14) (bs 991 13) ?_
                    exact norm_ qq1 (hJ0_3_8 (.slice (some adz_v104) y103.length co20, adz_v104) _ ⟨hHeld, (qR HO105.out), ⟨_, rfl⟩, (bq BK101.out), (bq BK102.out), (qS2 GE101 GE102 HB.out)⟩)
                  skip
                  refine box_step ?hg (N := 3) ?hd (cs := #[.int .i64 0, .int .i64 0, .int .i64 0, .int .i64 0, .int .i64 0, .string (⟨#[]⟩ : ByteArray)]) (t := 28) ?hr ?_; (case hd => rfl); (case hg => rfl); (case hr => exact qq6)
                  intro gb109 hg w21 hbox hb
                  replace HO105 := Aside0.mk (Kd.R_below (qR HO105.out) hb)
                  have BK109 := Aside0.mk (hbox)
                  have GW109 := Aside0.mk ((qqe : w.heap.size ≤ gb109))
                  have GE109 := Aside0.mk ((qqe : w.heap.size ≤ gb109))
                  replace HB := Aside0.mk (below_step (qS2 GE101 GE102 HB.out) hb)
                  have NB101_109 := Aside0.mk ((qqb : gb101 ≠ gb109))
                  have NB109_101 := Aside0.mk ((qqc : gb109 ≠ gb101))
                  replace BK101 := Aside0.mk (blk_below (bq BK101.out) hb)
                  have NB102_109 := Aside0.mk ((qqk : gb102 ≠ gb109))
                  have NB109_102 := Aside0.mk ((qql : gb109 ≠ gb102))
                  replace BK102 := Aside0.mk (blk_below (bq BK102.out) hb)
                  clear hb hbox hg
                  refine hK.out _ _ ⟨(blk_cell BK101.out 0).trans rfl, (blk_cell BK101.out 1).trans rfl, (blk_cell BK101.out 2).trans rfl, (blk_cell BK101.out 3).trans rfl, (blk_cell BK101.out 4).trans rfl, (blk_cell BK101.out 5).trans rfl⟩ (fun hHeld => ?_)
                  clear hK K
                  refine normS (some 3) ?_
                  exact norm_ qq1 (hJ0_3_11 (.slice (some adz_v104) y103.length co20, adz_v104, gb109) _ ⟨hHeld, (qR HO105.out), ⟨_, rfl⟩, (bq BK101.out), (bq BK102.out), (bq BK109.out), GW109.out, GE109.out, NB101_109.out, NB109_101.out, NB102_109.out, NB109_102.out, (qS3 GE101 GE102 GE109 HB.out)⟩)
                skip
                rintro gb109 w17 ⟨hS_, h0_, h1_, h2_, h3_, h4_, h5_, h6_, h7_, h8_, h9_⟩
                have n0_ : Aside0 (w17.heap[gb101]? = some (.cells #[.int .i64 a0_0, .int .i64 a0_1, .int .i64 a0_2, .int .i64 a0_3, .int .i64 a0_4, .string a0_5] 28 (0, 0))) := ⟨h0_⟩
                have n1_ : Aside0 (w17.heap[gb102]? = some (.cells #[.int .i64 0, .int .i64 0, .int .i64 0, .int .i64 0, .int .i64 0, .string (⟨#[]⟩ : ByteArray)] 28 (0, 0))) := ⟨h1_⟩
                have n2_ : Aside0 (w17.heap[gb109]? = some (.cells #[.int .i64 0, .int .i64 0, .int .i64 0, .int .i64 0, .int .i64 0, .string (⟨#[]⟩ : ByteArray)] 28 (0, 0))) := ⟨h2_⟩
                have n3_ : Aside0 (w.heap.size ≤ gb109) := ⟨h3_⟩
                have n4_ : Aside0 (w.heap.size ≤ gb109) := ⟨h4_⟩
                have n5_ : Aside0 (gb101 ≠ gb109) := ⟨h5_⟩
                have n6_ : Aside0 (gb109 ≠ gb101) := ⟨h6_⟩
                have n7_ : Aside0 (gb102 ≠ gb109) := ⟨h7_⟩
                have n8_ : Aside0 (gb109 ≠ gb102) := ⟨h8_⟩
                have n9_ : Aside0 (Below w.heap.size w w17) := ⟨h9_⟩
                clear BK101
                clear BK102
                clear HB
                clear h0_ h1_ h2_ h3_ h4_ h5_ h6_ h7_ h8_ h9_
                have BK101 := n0_
                have BK102 := n1_
                have BK109 := n2_
                have GW109 := n3_
                have GE109 := n4_
                have NB101_109 := n5_
                have NB109_101 := n6_
                have NB102_109 := n7_
                have NB109_102 := n8_
                have HB := n9_
                clear n0_ n1_ n2_ n3_ n4_ n5_ n6_ n7_ n8_ n9_
                have hHeld : w17.cell? ⟨gb101, 0, none⟩ = some (.int .i64 a0_0) ∧ w17.cell? ⟨gb101, 1, none⟩ = some (.int .i64 a0_1) ∧ w17.cell? ⟨gb101, 2, none⟩ = some (.int .i64 a0_2) ∧ w17.cell? ⟨gb101, 3, none⟩ = some (.int .i64 a0_3) ∧ w17.cell? ⟨gb101, 4, none⟩ = some (.int .i64 a0_4) ∧ w17.cell? ⟨gb101, 5, none⟩ = some (.string a0_5) := hS_
                refine norm_ (a' := ?_) ?_ ?_
                rotate_left
                · simp only [putAll, Act.put, List.setIfInBounds_toArray, List.set_cons_zero, List.set_cons_succ]
                  rfl
                refine one_ (i := 0) (N := some 5) (bs 3023 13) rfl rfl (one_of HT_.out (by kernel_rfl)) (by decide) (fun K hK => ?_)
                refine Kd.R_lit_step (Kd.int .i64) _ 3 ?hg (N := 5) ?hd (xs := ([0, 1, 96, 127, 128, 16384, 268435455] : List Int)) (inner := [.int .i64 0, .int .i64 1, .int .i64 96, .int .i64 127, .int .i64 128, .int .i64 16384, .int .i64 268435455]) (ok := fun _ => True) (okp := fun _ => True) ?hr ?hp (fun _ hk => hk) trivial (Below.refl _ _) (Nat.le_refl _) (by simp) ?_; (case hd => rfl); (case hg => rfl); (case hr => exact qq6); (case hp => exact qqa)
                intro v104 w18 ho19 hb hg_ hnew_
                clear hg_ hnew_
                (first | rw [← Ny103.out] at ho19 | (simp only [Int.reduceToNat] at ho19; rw [← Ny103.out] at ho19))
                have HO105 := Aside0.mk (Kd.R_lower ho19 (below_size (qS3 GE101 GE102 GE109 HB.out)))
                replace BK101 := Aside0.mk (blk_below (bq BK101.out) hb)
                replace BK102 := Aside0.mk (blk_below (bq BK102.out) hb)
                replace BK109 := Aside0.mk (blk_below (bq BK109.out) hb)
                replace HB := Aside0.mk (below_step (qS3 GE101 GE102 GE109 HB.out) hb)
                clear hb ho19
                obtain ⟨Ao20, co20, eo20⟩ := Kd.R_slice HO105.out
                subst eo20
                obtain ⟨ado20, fo20, _⟩ := Kd.at_int (Kd.R_reads' HO105.out).2.2 0 (by decide) qq1B
                cases fo20
                refine hK.out _ _ ⟨(blk_cell BK101.out 0).trans rfl, (blk_cell BK101.out 1).trans rfl, (blk_cell BK101.out 2).trans rfl, (blk_cell BK101.out 3).trans rfl, (blk_cell BK101.out 4).trans rfl, (blk_cell BK101.out 5).trans rfl⟩ (fun hHeld => ?_)
                clear hK K
                refine normS (some 5) ?_
                refine pureS 4 (some 9) (bs 3039 13) ?_
                exact norm_ qq1 (hJ0_3_8_11 (.slice (some ado20) y103.length co20, ado20, gb109) _ ⟨hHeld, (qR HO105.out), ⟨_, rfl⟩, (bq BK101.out), (bq BK102.out), (bq BK109.out), GW109.out, GE109.out, NB101_109.out, NB109_101.out, NB102_109.out, NB109_102.out, (qS3 GE101 GE102 GE109 HB.out)⟩)
              skip
              rintro ⟨v104, adz_v104, gb109⟩ w20 ⟨hS_, h0_, h1_, h2_, h3_, h4_, h5_, h6_, h7_, h8_, h9_, h10_, h11_⟩
              have n0_ : Aside0 (Kd.R (Kd.int .i64) 3 w20 w.heap.size (fun _ => True) v104 y103) := ⟨h0_⟩
              have n1_ : Aside0 (∃ c_, (v104 : Value) = .slice (some adz_v104) y103.length c_) := ⟨h1_⟩
              have n2_ : Aside0 (w20.heap[gb101]? = some (.cells #[.int .i64 a0_0, .int .i64 a0_1, .int .i64 a0_2, .int .i64 a0_3, .int .i64 a0_4, .string a0_5] 28 (0, 0))) := ⟨h2_⟩
              have n3_ : Aside0 (w20.heap[gb102]? = some (.cells #[.int .i64 0, .int .i64 0, .int .i64 0, .int .i64 0, .int .i64 0, .string (⟨#[]⟩ : ByteArray)] 28 (0, 0))) := ⟨h3_⟩
              have n4_ : Aside0 (w20.heap[gb109]? = some (.cells #[.int .i64 0, .int .i64 0, .int .i64 0, .int .i64 0, .int .i64 0, .string (⟨#[]⟩ : ByteArray)] 28 (0, 0))) := ⟨h4_⟩
              have n5_ : Aside0 (w.heap.size ≤ gb109) := ⟨h5_⟩
              have n6_ : Aside0 (w.heap.size ≤ gb109) := ⟨h6_⟩
              have n7_ : Aside0 (gb101 ≠ gb109) := ⟨h7_⟩
              have n8_ : Aside0 (gb109 ≠ gb101) := ⟨h8_⟩
              have n9_ : Aside0 (gb102 ≠ gb109) := ⟨h9_⟩
              have n10_ : Aside0 (gb109 ≠ gb102) := ⟨h10_⟩
              have n11_ : Aside0 (Below w.heap.size w w20) := ⟨h11_⟩
              clear BK101
              clear BK102
              clear HB
              clear h0_ h1_ h2_ h3_ h4_ h5_ h6_ h7_ h8_ h9_ h10_ h11_
              have HO105 := n0_
              have HA_HO105 := n1_
              have BK101 := n2_
              have BK102 := n3_
              have BK109 := n4_
              have GW109 := n5_
              have GE109 := n6_
              have NB101_109 := n7_
              have NB109_101 := n8_
              have NB102_109 := n9_
              have NB109_102 := n10_
              have HB := n11_
              clear n0_ n1_ n2_ n3_ n4_ n5_ n6_ n7_ n8_ n9_ n10_ n11_
              have hHeld : w20.cell? ⟨gb101, 0, none⟩ = some (.int .i64 a0_0) ∧ w20.cell? ⟨gb101, 1, none⟩ = some (.int .i64 a0_1) ∧ w20.cell? ⟨gb101, 2, none⟩ = some (.int .i64 a0_2) ∧ w20.cell? ⟨gb101, 3, none⟩ = some (.int .i64 a0_3) ∧ w20.cell? ⟨gb101, 4, none⟩ = some (.int .i64 a0_4) ∧ w20.cell? ⟨gb101, 5, none⟩ = some (.string a0_5) := hS_
              obtain ⟨co21, eo21⟩ := HA_HO105.out
              clear HA_HO105
              subst eo21
              refine norm_ (a' := ?_) ?_ ?_
              rotate_left
              · simp only [putAll, Act.put, List.setIfInBounds_toArray, List.set_cons_zero, List.set_cons_succ]
                rfl
              refine two_ (i := 5) (j := 8) (Ni := some 10) (Nj := some 13) (bs 2303 13) (bs 2527 13) rfl rfl rfl rfl (two_of HT_.out (by kernel_rfl)) (by decide) (by decide) (fun K hK => ?_) (fun K hK => ?_)
              · skip
                (have p107 : 0 ≤ (t106 : Int) := of_decide_eq_true qq4; have q107 : t106 < (y103.length : Int) := of_decide_eq_true qq4; obtain ⟨ad107, e107, hx107_0⟩ := Kd.at_int (Kd.R_reads' HO105.out).2.2 t106 p107 q107; obtain rfl : adz_v104 = ad107 := (by injection e107))
                refine value_ (w1 := ?_) (v := ?_) (by rfl) rfl ?_ ?_
                rotate_left 2
                · go_simp
                  constructor
                  · rfl
                  rfl
                clear hx107_0
                refine hK.out _ _ ⟨(blk_cell BK101.out 0).trans rfl, (blk_cell BK101.out 1).trans rfl, (blk_cell BK101.out 2).trans rfl, (blk_cell BK101.out 3).trans rfl, (blk_cell BK101.out 4).trans rfl, (blk_cell BK101.out 5).trans rfl⟩ (fun hHeld => ?_)
                clear hK K
                refine normS (some 10) ?_
                exact norm_ qq1 (hJ0_3_5_11 (.slice (some adz_v104) y103.length co21, adz_v104, gb109) _ ⟨hHeld, (qR HO105.out), ⟨_, rfl⟩, (bq BK101.out), (bq BK102.out), (bq BK109.out), GW109.out, GE109.out, NB101_109.out, NB109_101.out, NB102_109.out, NB109_102.out, (qS3 GE101 GE102 GE109 HB.out)⟩)
              skip
              refine goes_ Try.func19 (by kernel_rfl) rfl #[.int .i64 a0_1, .int .i64 9] (by rfl) rfl rfl qq0 ?_
              with_reducible refine (partitalaw16_pick.calls a0_1 9 t108 _ A5.out).mono ?_
              rintro e w' ⟨rfl, ⟨nd, rfl⟩⟩
              refine ⟨_, rfl, ?_⟩
              refine hK.out _ _ ⟨(blk_cell BK101.out 0).trans rfl, (blk_cell BK101.out 1).trans rfl, (blk_cell BK101.out 2).trans rfl, (blk_cell BK101.out 3).trans rfl, (blk_cell BK101.out 4).trans rfl, (blk_cell BK101.out 5).trans rfl⟩ (fun hHeld => ?_)
              clear hK K
              refine normS (some 13) ?_
              refine pureS 9 (some 14) (bs 3039 13) ?_
              exact norm_ qq1 (hJ0_3_8_11 (.slice (some adz_v104) y103.length co21, adz_v104, gb109) _ ⟨hHeld, (qR HO105.out), ⟨_, rfl⟩, (bq BK101.out), (bq BK102.out), (bq BK109.out), GW109.out, GE109.out, NB101_109.out, NB109_101.out, NB102_109.out, NB109_102.out, (qS3 GE101 GE102 GE109 HB.out)⟩)
            skip
            rintro ⟨v104, adz_v104⟩ w19 ⟨hS_, h0_, h1_, h2_, h3_, h4_⟩
            have n0_ : Aside0 (Kd.R (Kd.int .i64) 3 w19 w.heap.size (fun _ => True) v104 y103) := ⟨h0_⟩
            have n1_ : Aside0 (∃ c_, (v104 : Value) = .slice (some adz_v104) y103.length c_) := ⟨h1_⟩
            have n2_ : Aside0 (w19.heap[gb101]? = some (.cells #[.int .i64 a0_0, .int .i64 a0_1, .int .i64 a0_2, .int .i64 a0_3, .int .i64 a0_4, .string a0_5] 28 (0, 0))) := ⟨h2_⟩
            have n3_ : Aside0 (w19.heap[gb102]? = some (.cells #[.int .i64 0, .int .i64 0, .int .i64 0, .int .i64 0, .int .i64 0, .string (⟨#[]⟩ : ByteArray)] 28 (0, 0))) := ⟨h3_⟩
            have n4_ : Aside0 (Below w.heap.size w w19) := ⟨h4_⟩
            clear BK101
            clear BK102
            clear HB
            clear h0_ h1_ h2_ h3_ h4_
            have HO105 := n0_
            have HA_HO105 := n1_
            have BK101 := n2_
            have BK102 := n3_
            have HB := n4_
            clear n0_ n1_ n2_ n3_ n4_
            have hHeld : w19.cell? ⟨gb101, 0, none⟩ = some (.int .i64 a0_0) ∧ w19.cell? ⟨gb101, 1, none⟩ = some (.int .i64 a0_1) ∧ w19.cell? ⟨gb101, 2, none⟩ = some (.int .i64 a0_2) ∧ w19.cell? ⟨gb101, 3, none⟩ = some (.int .i64 a0_3) ∧ w19.cell? ⟨gb101, 4, none⟩ = some (.int .i64 a0_4) ∧ w19.cell? ⟨gb101, 5, none⟩ = some (.string a0_5) := hS_
            obtain ⟨co20, eo20⟩ := HA_HO105.out
            clear HA_HO105
            subst eo20
            refine norm_ (a' := ?_) ?_ ?_
            rotate_left
            · simp only [putAll, Act.put, List.setIfInBounds_toArray, List.set_cons_zero, List.set_cons_succ]
              rfl
            refine two_ (i := 5) (j := 11) (Ni := some 10) (Nj := some 3) (bs 1023 13) (bs 3039 13) rfl rfl rfl rfl (two_of HT_.out (by kernel_rfl)) (by decide) (by decide) (fun K hK => ?_) (fun K hK => ?_)
            rotate_left
            · skip
              refine box_step ?hg (N := 3) ?hd (cs := #[.int .i64 0, .int .i64 0, .int .i64 0, .int .i64 0, .int .i64 0, .string (⟨#[]⟩ : ByteArray)]) (t := 28) ?hr ?_; (case hd => rfl); (case hg => rfl); (case hr => exact qq6)
              intro gb109 hg w21 hbox hb
              replace HO105 := Aside0.mk (Kd.R_below (qR HO105.out) hb)
              have BK109 := Aside0.mk (hbox)
              have GW109 := Aside0.mk ((qqe : w.heap.size ≤ gb109))
              have GE109 := Aside0.mk ((qqe : w.heap.size ≤ gb109))
              replace HB := Aside0.mk (below_step (qS2 GE101 GE102 HB.out) hb)
              have NB101_109 := Aside0.mk ((qqb : gb101 ≠ gb109))
              have NB109_101 := Aside0.mk ((qqc : gb109 ≠ gb101))
              replace BK101 := Aside0.mk (blk_below (bq BK101.out) hb)
              have NB102_109 := Aside0.mk ((qqk : gb102 ≠ gb109))
              have NB109_102 := Aside0.mk ((qql : gb109 ≠ gb102))
              replace BK102 := Aside0.mk (blk_below (bq BK102.out) hb)
              clear hb hbox hg
              refine hK.out _ _ ⟨(blk_cell BK101.out 0).trans rfl, (blk_cell BK101.out 1).trans rfl, (blk_cell BK101.out 2).trans rfl, (blk_cell BK101.out 3).trans rfl, (blk_cell BK101.out 4).trans rfl, (blk_cell BK101.out 5).trans rfl⟩ (fun hHeld => ?_)
              clear hK K
              refine normS (some 3) ?_
              exact norm_ qq1 (hJ0_3_8_11 (.slice (some adz_v104) y103.length co20, adz_v104, gb109) _ ⟨hHeld, (qR HO105.out), ⟨_, rfl⟩, (bq BK101.out), (bq BK102.out), (bq BK109.out), GW109.out, GE109.out, NB101_109.out, NB109_101.out, NB102_109.out, NB109_102.out, (qS3 GE101 GE102 GE109 HB.out)⟩)
            skip
            (have p107 : 0 ≤ (t106 : Int) := of_decide_eq_true qq4; have q107 : t106 < (y103.length : Int) := of_decide_eq_true qq4; obtain ⟨ad107, e107, hx107_0⟩ := Kd.at_int (Kd.R_reads' HO105.out).2.2 t106 p107 q107; obtain rfl : adz_v104 = ad107 := (by injection e107))
            refine value_ (w1 := ?_) (v := ?_) (by rfl) rfl ?_ ?_
            rotate_left 2
            · go_simp
              constructor
              · rfl
              rfl
            clear hx107_0
            refine hK.out _ _ ⟨(blk_cell BK101.out 0).trans rfl, (blk_cell BK101.out 1).trans rfl, (blk_cell BK101.out 2).trans rfl, (blk_cell BK101.out 3).trans rfl, (blk_cell BK101.out 4).trans rfl, (blk_cell BK101.out 5).trans rfl⟩ (fun hHeld => ?_)
            clear hK K
            refine normS (some 10) ?_
            refine pureS 10 (some 15) (bs 2047 13) ?_
            exact norm_ qq1 (hJ0_3_5_8 (.slice (some adz_v104) y103.length co20, adz_v104) _ ⟨hHeld, (qR HO105.out), ⟨_, rfl⟩, (bq BK101.out), (bq BK102.out), (qS2 GE101 GE102 HB.out)⟩)
          skip
          rintro ⟨v104, adz_v104⟩ w19 ⟨hS_, h0_, h1_, h2_, h3_, h4_⟩
          have n0_ : Aside0 (Kd.R (Kd.int .i64) 3 w19 w.heap.size (fun _ => True) v104 y103) := ⟨h0_⟩
          have n1_ : Aside0 (∃ c_, (v104 : Value) = .slice (some adz_v104) y103.length c_) := ⟨h1_⟩
          have n2_ : Aside0 (w19.heap[gb101]? = some (.cells #[.int .i64 a0_0, .int .i64 a0_1, .int .i64 a0_2, .int .i64 a0_3, .int .i64 a0_4, .string a0_5] 28 (0, 0))) := ⟨h2_⟩
          have n3_ : Aside0 (w19.heap[gb102]? = some (.cells #[.int .i64 0, .int .i64 0, .int .i64 0, .int .i64 0, .int .i64 0, .string (⟨#[]⟩ : ByteArray)] 28 (0, 0))) := ⟨h3_⟩
          have n4_ : Aside0 (Below w.heap.size w w19) := ⟨h4_⟩
          clear BK101
          clear BK102
          clear HB
          clear h0_ h1_ h2_ h3_ h4_
          have HO105 := n0_
          have HA_HO105 := n1_
          have BK101 := n2_
          have BK102 := n3_
          have HB := n4_
          clear n0_ n1_ n2_ n3_ n4_
          have hHeld : w19.cell? ⟨gb101, 0, none⟩ = some (.int .i64 a0_0) ∧ w19.cell? ⟨gb101, 1, none⟩ = some (.int .i64 a0_1) ∧ w19.cell? ⟨gb101, 2, none⟩ = some (.int .i64 a0_2) ∧ w19.cell? ⟨gb101, 3, none⟩ = some (.int .i64 a0_3) ∧ w19.cell? ⟨gb101, 4, none⟩ = some (.int .i64 a0_4) ∧ w19.cell? ⟨gb101, 5, none⟩ = some (.string a0_5) := hS_
          obtain ⟨co20, eo20⟩ := HA_HO105.out
          clear HA_HO105
          subst eo20
          refine norm_ (a' := ?_) ?_ ?_
          rotate_left
          · simp only [putAll, Act.put, List.setIfInBounds_toArray, List.set_cons_zero, List.set_cons_succ]
            rfl
          refine two_ (i := 8) (j := 11) (Ni := some 13) (Nj := some 3) (bs 511 13) (bs 2303 13) rfl rfl rfl rfl (two_of HT_.out (by kernel_rfl)) (by decide) (by decide) (fun K hK => ?_) (fun K hK => ?_)
          rotate_left
          · skip
            refine box_step ?hg (N := 3) ?hd (cs := #[.int .i64 0, .int .i64 0, .int .i64 0, .int .i64 0, .int .i64 0, .string (⟨#[]⟩ : ByteArray)]) (t := 28) ?hr ?_; (case hd => rfl); (case hg => rfl); (case hr => exact qq6)
            intro gb109 hg w21 hbox hb
            replace HO105 := Aside0.mk (Kd.R_below (qR HO105.out) hb)
            have BK109 := Aside0.mk (hbox)
            have GW109 := Aside0.mk ((qqe : w.heap.size ≤ gb109))
            have GE109 := Aside0.mk ((qqe : w.heap.size ≤ gb109))
            replace HB := Aside0.mk (below_step (qS2 GE101 GE102 HB.out) hb)
            have NB101_109 := Aside0.mk ((qqb : gb101 ≠ gb109))
            have NB109_101 := Aside0.mk ((qqc : gb109 ≠ gb101))
            replace BK101 := Aside0.mk (blk_below (bq BK101.out) hb)
            have NB102_109 := Aside0.mk ((qqk : gb102 ≠ gb109))
            have NB109_102 := Aside0.mk ((qql : gb109 ≠ gb102))
            replace BK102 := Aside0.mk (blk_below (bq BK102.out) hb)
            clear hb hbox hg
            refine hK.out _ _ ⟨(blk_cell BK101.out 0).trans rfl, (blk_cell BK101.out 1).trans rfl, (blk_cell BK101.out 2).trans rfl, (blk_cell BK101.out 3).trans rfl, (blk_cell BK101.out 4).trans rfl, (blk_cell BK101.out 5).trans rfl⟩ (fun hHeld => ?_)
            clear hK K
            refine normS (some 3) ?_
            exact norm_ qq1 (hJ0_3_5_11 (.slice (some adz_v104) y103.length co20, adz_v104, gb109) _ ⟨hHeld, (qR HO105.out), ⟨_, rfl⟩, (bq BK101.out), (bq BK102.out), (bq BK109.out), GW109.out, GE109.out, NB101_109.out, NB109_101.out, NB102_109.out, NB109_102.out, (qS3 GE101 GE102 GE109 HB.out)⟩)
          skip
          refine goes_ Try.func19 (by kernel_rfl) rfl #[.int .i64 a0_1, .int .i64 9] (by rfl) rfl rfl qq0 ?_
          with_reducible refine (partitalaw16_pick.calls a0_1 9 t108 _ A5.out).mono ?_
          rintro e w' ⟨rfl, ⟨nd, rfl⟩⟩
          refine ⟨_, rfl, ?_⟩
          refine hK.out _ _ ⟨(blk_cell BK101.out 0).trans rfl, (blk_cell BK101.out 1).trans rfl, (blk_cell BK101.out 2).trans rfl, (blk_cell BK101.out 3).trans rfl, (blk_cell BK101.out 4).trans rfl, (blk_cell BK101.out 5).trans rfl⟩ (fun hHeld => ?_)
          clear hK K
          refine normS (some 13) ?_
          refine pureS 9 (some 14) (bs 1023 13) ?_
          refine pureS 10 (some 15) (bs 2047 13) ?_
          exact norm_ qq1 (hJ0_3_5_8 (.slice (some adz_v104) y103.length co20, adz_v104) _ ⟨hHeld, (qR HO105.out), ⟨_, rfl⟩, (bq BK101.out), (bq BK102.out), (qS2 GE101 GE102 HB.out)⟩)
        skip
        rintro ⟨v104, adz_v104, gb109⟩ w20 ⟨hS_, h0_, h1_, h2_, h3_, h4_, h5_, h6_, h7_, h8_, h9_, h10_, h11_⟩
        have n0_ : Aside0 (Kd.R (Kd.int .i64) 3 w20 w.heap.size (fun _ => True) v104 y103) := ⟨h0_⟩
        have n1_ : Aside0 (∃ c_, (v104 : Value) = .slice (some adz_v104) y103.length c_) := ⟨h1_⟩
        have n2_ : Aside0 (w20.heap[gb101]? = some (.cells #[.int .i64 a0_0, .int .i64 a0_1, .int .i64 a0_2, .int .i64 a0_3, .int .i64 a0_4, .string a0_5] 28 (0, 0))) := ⟨h2_⟩
        have n3_ : Aside0 (w20.heap[gb102]? = some (.cells #[.int .i64 0, .int .i64 0, .int .i64 0, .int .i64 0, .int .i64 0, .string (⟨#[]⟩ : ByteArray)] 28 (0, 0))) := ⟨h3_⟩
        have n4_ : Aside0 (w20.heap[gb109]? = some (.cells #[.int .i64 0, .int .i64 0, .int .i64 0, .int .i64 0, .int .i64 0, .string (⟨#[]⟩ : ByteArray)] 28 (0, 0))) := ⟨h4_⟩
        have n5_ : Aside0 (w.heap.size ≤ gb109) := ⟨h5_⟩
        have n6_ : Aside0 (w.heap.size ≤ gb109) := ⟨h6_⟩
        have n7_ : Aside0 (gb101 ≠ gb109) := ⟨h7_⟩
        have n8_ : Aside0 (gb109 ≠ gb101) := ⟨h8_⟩
        have n9_ : Aside0 (gb102 ≠ gb109) := ⟨h9_⟩
        have n10_ : Aside0 (gb109 ≠ gb102) := ⟨h10_⟩
        have n11_ : Aside0 (Below w.heap.size w w20) := ⟨h11_⟩
        clear BK101
        clear BK102
        clear HB
        clear h0_ h1_ h2_ h3_ h4_ h5_ h6_ h7_ h8_ h9_ h10_ h11_
        have HO105 := n0_
        have HA_HO105 := n1_
        have BK101 := n2_
        have BK102 := n3_
        have BK109 := n4_
        have GW109 := n5_
        have GE109 := n6_
        have NB101_109 := n7_
        have NB109_101 := n8_
        have NB102_109 := n9_
        have NB109_102 := n10_
        have HB := n11_
        clear n0_ n1_ n2_ n3_ n4_ n5_ n6_ n7_ n8_ n9_ n10_ n11_
        have hHeld : w20.cell? ⟨gb101, 0, none⟩ = some (.int .i64 a0_0) ∧ w20.cell? ⟨gb101, 1, none⟩ = some (.int .i64 a0_1) ∧ w20.cell? ⟨gb101, 2, none⟩ = some (.int .i64 a0_2) ∧ w20.cell? ⟨gb101, 3, none⟩ = some (.int .i64 a0_3) ∧ w20.cell? ⟨gb101, 4, none⟩ = some (.int .i64 a0_4) ∧ w20.cell? ⟨gb101, 5, none⟩ = some (.string a0_5) := hS_
        obtain ⟨co21, eo21⟩ := HA_HO105.out
        clear HA_HO105
        subst eo21
        refine norm_ (a' := ?_) ?_ ?_
        rotate_left
        · simp only [putAll, Act.put, List.setIfInBounds_toArray, List.set_cons_zero, List.set_cons_succ]
          rfl
        refine one_ (i := 5) (N := some 10) (bs 3071 13) rfl rfl (one_of HT_.out (by kernel_rfl)) (by decide) (fun K hK => ?_)
        (have p107 : 0 ≤ (t106 : Int) := of_decide_eq_true qq4; have q107 : t106 < (y103.length : Int) := of_decide_eq_true qq4; obtain ⟨ad107, e107, hx107_0⟩ := Kd.at_int (Kd.R_reads' HO105.out).2.2 t106 p107 q107; obtain rfl : adz_v104 = ad107 := (by injection e107))
        refine value_ (w1 := ?_) (v := ?_) (by rfl) rfl ?_ ?_
        rotate_left 2
        · go_simp
          constructor
          · rfl
          rfl
        clear hx107_0
        refine hK.out _ _ ⟨(blk_cell BK101.out 0).trans rfl, (blk_cell BK101.out 1).trans rfl, (blk_cell BK101.out 2).trans rfl, (blk_cell BK101.out 3).trans rfl, (blk_cell BK101.out 4).trans rfl, (blk_cell BK101.out 5).trans rfl⟩ (fun hHeld => ?_)
        clear hK K
        refine normS (some 10) ?_
        refine pureS 10 (some 15) (bs 4095 13) ?_
        exact norm_ qq1 (hJ0_3_5_8_11 (.slice (some adz_v104) y103.length co21, adz_v104, gb109) _ ⟨hHeld, (qR HO105.out), ⟨_, rfl⟩, (bq BK101.out), (bq BK102.out), (bq BK109.out), GW109.out, GE109.out, NB101_109.out, NB109_101.out, NB102_109.out, NB109_102.out, (qS3 GE101 GE102 GE109 HB.out)⟩)
      skip
      rintro ⟨v104, adz_v104, gb109⟩ w20 ⟨hS_, h0_, h1_, h2_, h3_, h4_, h5_, h6_, h7_, h8_, h9_, h10_, h11_⟩
      have n0_ : Aside0 (Kd.R (Kd.int .i64) 3 w20 w.heap.size (fun _ => True) v104 y103) := ⟨h0_⟩
      have n1_ : Aside0 (∃ c_, (v104 : Value) = .slice (some adz_v104) y103.length c_) := ⟨h1_⟩
      have n2_ : Aside0 (w20.heap[gb101]? = some (.cells #[.int .i64 a0_0, .int .i64 a0_1, .int .i64 a0_2, .int .i64 a0_3, .int .i64 a0_4, .string a0_5] 28 (0, 0))) := ⟨h2_⟩
      have n3_ : Aside0 (w20.heap[gb102]? = some (.cells #[.int .i64 0, .int .i64 0, .int .i64 0, .int .i64 0, .int .i64 0, .string (⟨#[]⟩ : ByteArray)] 28 (0, 0))) := ⟨h3_⟩
      have n4_ : Aside0 (w20.heap[gb109]? = some (.cells #[.int .i64 0, .int .i64 0, .int .i64 0, .int .i64 0, .int .i64 0, .string (⟨#[]⟩ : ByteArray)] 28 (0, 0))) := ⟨h4_⟩
      have n5_ : Aside0 (w.heap.size ≤ gb109) := ⟨h5_⟩
      have n6_ : Aside0 (w.heap.size ≤ gb109) := ⟨h6_⟩
      have n7_ : Aside0 (gb101 ≠ gb109) := ⟨h7_⟩
      have n8_ : Aside0 (gb109 ≠ gb101) := ⟨h8_⟩
      have n9_ : Aside0 (gb102 ≠ gb109) := ⟨h9_⟩
      have n10_ : Aside0 (gb109 ≠ gb102) := ⟨h10_⟩
      have n11_ : Aside0 (Below w.heap.size w w20) := ⟨h11_⟩
      clear BK101
      clear BK102
      clear HB
      clear h0_ h1_ h2_ h3_ h4_ h5_ h6_ h7_ h8_ h9_ h10_ h11_
      have HO105 := n0_
      have HA_HO105 := n1_
      have BK101 := n2_
      have BK102 := n3_
      have BK109 := n4_
      have GW109 := n5_
      have GE109 := n6_
      have NB101_109 := n7_
      have NB109_101 := n8_
      have NB102_109 := n9_
      have NB109_102 := n10_
      have HB := n11_
      clear n0_ n1_ n2_ n3_ n4_ n5_ n6_ n7_ n8_ n9_ n10_ n11_
      have hHeld : w20.cell? ⟨gb101, 0, none⟩ = some (.int .i64 a0_0) ∧ w20.cell? ⟨gb101, 1, none⟩ = some (.int .i64 a0_1) ∧ w20.cell? ⟨gb101, 2, none⟩ = some (.int .i64 a0_2) ∧ w20.cell? ⟨gb101, 3, none⟩ = some (.int .i64 a0_3) ∧ w20.cell? ⟨gb101, 4, none⟩ = some (.int .i64 a0_4) ∧ w20.cell? ⟨gb101, 5, none⟩ = some (.string a0_5) := hS_
      obtain ⟨co21, eo21⟩ := HA_HO105.out
      clear HA_HO105
      subst eo21
      refine norm_ (a' := ?_) ?_ ?_
      rotate_left
      · simp only [putAll, Act.put, List.setIfInBounds_toArray, List.set_cons_zero, List.set_cons_succ]
        rfl
      refine one_ (i := 8) (N := some 13) (bs 2559 13) rfl rfl (one_of HT_.out (by kernel_rfl)) (by decide) (fun K hK => ?_)
      refine goes_ Try.func19 (by kernel_rfl) rfl #[.int .i64 a0_1, .int .i64 9] (by rfl) rfl rfl qq0 ?_
      with_reducible refine (partitalaw16_pick.calls a0_1 9 t108 _ A5.out).mono ?_
      rintro e w' ⟨rfl, ⟨nd, rfl⟩⟩
      refine ⟨_, rfl, ?_⟩
      refine hK.out _ _ ⟨(blk_cell BK101.out 0).trans rfl, (blk_cell BK101.out 1).trans rfl, (blk_cell BK101.out 2).trans rfl, (blk_cell BK101.out 3).trans rfl, (blk_cell BK101.out 4).trans rfl, (blk_cell BK101.out 5).trans rfl⟩ (fun hHeld => ?_)
      clear hK K
      refine normS (some 13) ?_
      refine pureS 9 (some 14) (bs 3071 13) ?_
      refine pureS 10 (some 15) (bs 4095 13) ?_
      exact norm_ qq1 (hJ0_3_5_8_11 (.slice (some adz_v104) y103.length co21, adz_v104, gb109) _ ⟨hHeld, (qR HO105.out), ⟨_, rfl⟩, (bq BK101.out), (bq BK102.out), (bq BK109.out), GW109.out, GE109.out, NB101_109.out, NB109_101.out, NB102_109.out, NB109_102.out, (qS3 GE101 GE102 GE109 HB.out)⟩)
    skip
    rintro ⟨v104, adz_v104⟩ w19 ⟨hS_, h0_, h1_, h2_, h3_, h4_⟩
    have n0_ : Aside0 (Kd.R (Kd.int .i64) 3 w19 w.heap.size (fun _ => True) v104 y103) := ⟨h0_⟩
    have n1_ : Aside0 (∃ c_, (v104 : Value) = .slice (some adz_v104) y103.length c_) := ⟨h1_⟩
    have n2_ : Aside0 (w19.heap[gb101]? = some (.cells #[.int .i64 a0_0, .int .i64 a0_1, .int .i64 a0_2, .int .i64 a0_3, .int .i64 a0_4, .string a0_5] 28 (0, 0))) := ⟨h2_⟩
    have n3_ : Aside0 (w19.heap[gb102]? = some (.cells #[.int .i64 0, .int .i64 0, .int .i64 0, .int .i64 0, .int .i64 0, .string (⟨#[]⟩ : ByteArray)] 28 (0, 0))) := ⟨h3_⟩
    have n4_ : Aside0 (Below w.heap.size w w19) := ⟨h4_⟩
    clear BK101
    clear BK102
    clear HB
    clear h0_ h1_ h2_ h3_ h4_
    have HO105 := n0_
    have HA_HO105 := n1_
    have BK101 := n2_
    have BK102 := n3_
    have HB := n4_
    clear n0_ n1_ n2_ n3_ n4_
    have hHeld : w19.cell? ⟨gb101, 0, none⟩ = some (.int .i64 a0_0) ∧ w19.cell? ⟨gb101, 1, none⟩ = some (.int .i64 a0_1) ∧ w19.cell? ⟨gb101, 2, none⟩ = some (.int .i64 a0_2) ∧ w19.cell? ⟨gb101, 3, none⟩ = some (.int .i64 a0_3) ∧ w19.cell? ⟨gb101, 4, none⟩ = some (.int .i64 a0_4) ∧ w19.cell? ⟨gb101, 5, none⟩ = some (.string a0_5) := hS_
    obtain ⟨co20, eo20⟩ := HA_HO105.out
    clear HA_HO105
    subst eo20
    refine norm_ (a' := ?_) ?_ ?_
    rotate_left
    · simp only [putAll, Act.put, List.setIfInBounds_toArray, List.set_cons_zero, List.set_cons_succ]
      rfl
    refine one_ (i := 11) (N := some 3) (bs 4095 13) rfl rfl (one_of HT_.out (by kernel_rfl)) (by decide) (fun K hK => ?_)
    refine box_step ?hg (N := 3) ?hd (cs := #[.int .i64 0, .int .i64 0, .int .i64 0, .int .i64 0, .int .i64 0, .string (⟨#[]⟩ : ByteArray)]) (t := 28) ?hr ?_; (case hd => rfl); (case hg => rfl); (case hr => exact qq6)
    intro gb109 hg w21 hbox hb
    replace HO105 := Aside0.mk (Kd.R_below (qR HO105.out) hb)
    have BK109 := Aside0.mk (hbox)
    have GW109 := Aside0.mk ((qqe : w.heap.size ≤ gb109))
    have GE109 := Aside0.mk ((qqe : w.heap.size ≤ gb109))
    replace HB := Aside0.mk (below_step (qS2 GE101 GE102 HB.out) hb)
    have NB101_109 := Aside0.mk ((qqb : gb101 ≠ gb109))
    have NB109_101 := Aside0.mk ((qqc : gb109 ≠ gb101))
    replace BK101 := Aside0.mk (blk_below (bq BK101.out) hb)
    have NB102_109 := Aside0.mk ((qqk : gb102 ≠ gb109))
    have NB109_102 := Aside0.mk ((qql : gb109 ≠ gb102))
    replace BK102 := Aside0.mk (blk_below (bq BK102.out) hb)
    clear hb hbox hg
    refine hK.out _ _ ⟨(blk_cell BK101.out 0).trans rfl, (blk_cell BK101.out 1).trans rfl, (blk_cell BK101.out 2).trans rfl, (blk_cell BK101.out 3).trans rfl, (blk_cell BK101.out 4).trans rfl, (blk_cell BK101.out 5).trans rfl⟩ (fun hHeld => ?_)
    clear hK K
    refine normS (some 3) ?_
    exact norm_ qq1 (hJ0_3_5_8_11 (.slice (some adz_v104) y103.length co20, adz_v104, gb109) _ ⟨hHeld, (qR HO105.out), ⟨_, rfl⟩, (bq BK101.out), (bq BK102.out), (bq BK109.out), GW109.out, GE109.out, NB101_109.out, NB109_101.out, NB102_109.out, NB109_102.out, (qS3 GE101 GE102 GE109 HB.out)⟩)
  rintro ⟨v104, adz_v104, gb109⟩ w20 ⟨hS_, h0_, h1_, h2_, h3_, h4_, h5_, h6_, h7_, h8_, h9_, h10_, h11_⟩
  have n0_ : Aside0 (Kd.R (Kd.int .i64) 3 w20 w.heap.size (fun _ => True) v104 y103) := ⟨h0_⟩
  have n1_ : Aside0 (∃ c_, (v104 : Value) = .slice (some adz_v104) y103.length c_) := ⟨h1_⟩
  have n2_ : Aside0 (w20.heap[gb101]? = some (.cells #[.int .i64 a0_0, .int .i64 a0_1, .int .i64 a0_2, .int .i64 a0_3, .int .i64 a0_4, .string a0_5] 28 (0, 0))) := ⟨h2_⟩
  have n3_ : Aside0 (w20.heap[gb102]? = some (.cells #[.int .i64 0, .int .i64 0, .int .i64 0, .int .i64 0, .int .i64 0, .string (⟨#[]⟩ : ByteArray)] 28 (0, 0))) := ⟨h3_⟩
  have n4_ : Aside0 (w20.heap[gb109]? = some (.cells #[.int .i64 0, .int .i64 0, .int .i64 0, .int .i64 0, .int .i64 0, .string (⟨#[]⟩ : ByteArray)] 28 (0, 0))) := ⟨h4_⟩
  have n5_ : Aside0 (w.heap.size ≤ gb109) := ⟨h5_⟩
  have n6_ : Aside0 (w.heap.size ≤ gb109) := ⟨h6_⟩
  have n7_ : Aside0 (gb101 ≠ gb109) := ⟨h7_⟩
  have n8_ : Aside0 (gb109 ≠ gb101) := ⟨h8_⟩
  have n9_ : Aside0 (gb102 ≠ gb109) := ⟨h9_⟩
  have n10_ : Aside0 (gb109 ≠ gb102) := ⟨h10_⟩
  have n11_ : Aside0 (Below w.heap.size w w20) := ⟨h11_⟩
  clear BK101
  clear BK102
  clear HB
  clear h0_ h1_ h2_ h3_ h4_ h5_ h6_ h7_ h8_ h9_ h10_ h11_
  have HO105 := n0_
  have HA_HO105 := n1_
  have BK101 := n2_
  have BK102 := n3_
  have BK109 := n4_
  have GW109 := n5_
  have GE109 := n6_
  have NB101_109 := n7_
  have NB109_101 := n8_
  have NB102_109 := n9_
  have NB109_102 := n10_
  have HB := n11_
  clear n0_ n1_ n2_ n3_ n4_ n5_ n6_ n7_ n8_ n9_ n10_ n11_
  have hHeld : w20.cell? ⟨gb101, 0, none⟩ = some (.int .i64 a0_0) ∧ w20.cell? ⟨gb101, 1, none⟩ = some (.int .i64 a0_1) ∧ w20.cell? ⟨gb101, 2, none⟩ = some (.int .i64 a0_2) ∧ w20.cell? ⟨gb101, 3, none⟩ = some (.int .i64 a0_3) ∧ w20.cell? ⟨gb101, 4, none⟩ = some (.int .i64 a0_4) ∧ w20.cell? ⟨gb101, 5, none⟩ = some (.string a0_5) := hS_
  obtain ⟨co21, eo21⟩ := HA_HO105.out
  clear HA_HO105
  subst eo21
  refine norm_ (a' := ?_) ?_ ?_
  rotate_left
  · simp only [putAll, Act.put, List.setIfInBounds_toArray, List.set_cons_zero, List.set_cons_succ]
    rfl
  refine one_ (i := 12) (N := none) (bs 8191 13) rfl rfl (one_of HT_.out (by kernel_rfl)) (by decide) (fun K hK => ?_)
  have hs22 : w20.cell? ⟨gb109, 0, none⟩ = some (.int .i64 0) := (blk_cell BK109.out 0).trans rfl
  have hfs22 := blk_frozen BK109.out 0
  have hns22_0 := NB101_109.out
  have hns22_1 := NB102_109.out
  have hms22_0 := NB109_101.out
  have hms22_1 := NB109_102.out
  have hs23 : w20.cell? ⟨gb109, 1, none⟩ = some (.int .i64 0) := (blk_cell BK109.out 1).trans rfl
  have hfs23 := blk_frozen BK109.out 1
  have hns23_0 := NB101_109.out
  have hns23_1 := NB102_109.out
  have hms23_0 := NB109_101.out
  have hms23_1 := NB109_102.out
  have hs24 : w20.cell? ⟨gb109, 2, none⟩ = some (.int .i64 0) := (blk_cell BK109.out 2).trans rfl
  have hfs24 := blk_frozen BK109.out 2
  have hns24_0 := NB101_109.out
  have hns24_1 := NB102_109.out
  have hms24_0 := NB109_101.out
  have hms24_1 := NB109_102.out
  have hs25 : w20.cell? ⟨gb109, 3, none⟩ = some (.int .i64 0) := (blk_cell BK109.out 3).trans rfl
  have hfs25 := blk_frozen BK109.out 3
  have hns25_0 := NB101_109.out
  have hns25_1 := NB102_109.out
  have hms25_0 := NB109_101.out
  have hms25_1 := NB109_102.out
  have hs26 : w20.cell? ⟨gb109, 4, none⟩ = some (.int .i64 0) := (blk_cell BK109.out 4).trans rfl
  have hfs26 := blk_frozen BK109.out 4
  have hns26_0 := NB101_109.out
  have hns26_1 := NB102_109.out
  have hms26_0 := NB109_101.out
  have hms26_1 := NB109_102.out
  have hs27 : w20.cell? ⟨gb109, 5, none⟩ = some (.string (⟨#[]⟩ : ByteArray)) := (blk_cell BK109.out 5).trans rfl
  have hfs27 := blk_frozen BK109.out 5
  have hns27_0 := NB101_109.out
  have hns27_1 := NB102_109.out
  have hms27_0 := NB109_101.out
  have hms27_1 := NB109_102.out
  refine skip_ (w1 := ?_) (by rfl) rfl ?_ ?_
  rotate_left
  · go_simp
    rfl
  refine hK.out _ _ ⟨((cell_far (p := ⟨gb109, _, none⟩) NB101_109.out _).trans (((cell_far (p := ⟨gb109, _, none⟩) NB101_109.out _).trans (((cell_far (p := ⟨gb109, _, none⟩) NB101_109.out _).trans (((cell_far (p := ⟨gb109, _, none⟩) NB101_109.out _).trans (((cell_far (p := ⟨gb109, _, none⟩) NB101_109.out _).trans (((cell_far (p := ⟨gb109, _, none⟩) NB101_109.out _).trans (hHeld.1)))))))))))), ((cell_far (p := ⟨gb109, _, none⟩) NB101_109.out _).trans (((cell_far (p := ⟨gb109, _, none⟩) NB101_109.out _).trans (((cell_far (p := ⟨gb109, _, none⟩) NB101_109.out _).trans (((cell_far (p := ⟨gb109, _, none⟩) NB101_109.out _).trans (((cell_far (p := ⟨gb109, _, none⟩) NB101_109.out _).trans (((cell_far (p := ⟨gb109, _, none⟩) NB101_109.out _).trans (hHeld.2.1)))))))))))), ((cell_far (p := ⟨gb109, _, none⟩) NB101_109.out _).trans (((cell_far (p := ⟨gb109, _, none⟩) NB101_109.out _).trans (((cell_far (p := ⟨gb109, _, none⟩) NB101_109.out _).trans (((cell_far (p := ⟨gb109, _, none⟩) NB101_109.out _).trans (((cell_far (p := ⟨gb109, _, none⟩) NB101_109.out _).trans (((cell_far (p := ⟨gb109, _, none⟩) NB101_109.out _).trans (hHeld.2.2.1)))))))))))), ((cell_far (p := ⟨gb109, _, none⟩) NB101_109.out _).trans (((cell_far (p := ⟨gb109, _, none⟩) NB101_109.out _).trans (((cell_far (p := ⟨gb109, _, none⟩) NB101_109.out _).trans (((cell_far (p := ⟨gb109, _, none⟩) NB101_109.out _).trans (((cell_far (p := ⟨gb109, _, none⟩) NB101_109.out _).trans (((cell_far (p := ⟨gb109, _, none⟩) NB101_109.out _).trans (hHeld.2.2.2.1)))))))))))), ((cell_far (p := ⟨gb109, _, none⟩) NB101_109.out _).trans (((cell_far (p := ⟨gb109, _, none⟩) NB101_109.out _).trans (((cell_far (p := ⟨gb109, _, none⟩) NB101_109.out _).trans (((cell_far (p := ⟨gb109, _, none⟩) NB101_109.out _).trans (((cell_far (p := ⟨gb109, _, none⟩) NB101_109.out _).trans (((cell_far (p := ⟨gb109, _, none⟩) NB101_109.out _).trans (hHeld.2.2.2.2.1)))))))))))), ((cell_far (p := ⟨gb109, _, none⟩) NB101_109.out _).trans (((cell_far (p := ⟨gb109, _, none⟩) NB101_109.out _).trans (((cell_far (p := ⟨gb109, _, none⟩) NB101_109.out _).trans (((cell_far (p := ⟨gb109, _, none⟩) NB101_109.out _).trans (((cell_far (p := ⟨gb109, _, none⟩) NB101_109.out _).trans (((cell_far (p := ⟨gb109, _, none⟩) NB101_109.out _).trans (hHeld.2.2.2.2.2))))))))))))⟩ (fun hHeld => ?_)
  clear hK K
  refine done_ (done_of HT_.out (by kernel_rfl)) ?_
  obtain ⟨ji6, hji6⟩ : ∃ j_ : Int, (mn (a0_5.size : Int) 200) = j_ := ⟨_, rfl⟩
  replace H : (if 0 ≤ (ji6) then (if (ji6) ≤ (a0_5.size : Int) then (if (wrap64 (8 + t108)) = 15 then ((some (([240, 247] : List Int) : List Int)).bind fun y110 => ((partitalaw16_pick.f a0_3 2).bind fun t113 => (if 0 ≤ t113 then (if t113 < (y110.length : Int) then (some (rd y103 t106, wrap64 (8 + t108), 0, rd y110 t113, 0, a0_5.extract 0 ((ji6) : Int).toNat)) else (none)) else (none)))) else (if (wrap64 (8 + t108)) = 16 then ((partitalaw16_pick.f a0_3 47).bind fun t115 => (some (rd y103 t106, wrap64 (8 + t108), 0, t115, 0, a0_5.extract 0 ((ji6) : Int).toNat))) else ((partitalaw16_pick.f a0_2 16).bind fun t116 => ((partitalaw16_pick.f a0_3 128).bind fun t117 => (if (wrap64 (8 + t108)) = 12 then (some (rd y103 t106, wrap64 (8 + t108), t116, t117, 0, (⟨#[]⟩ : ByteArray))) else (if (wrap64 (8 + t108)) = 13 then (some (rd y103 t106, wrap64 (8 + t108), t116, t117, 0, (⟨#[]⟩ : ByteArray))) else ((partitalaw16_pick.f a0_4 128).bind fun t118 => (some (rd y103 t106, wrap64 (8 + t108), t116, t117, t118, (⟨#[]⟩ : ByteArray)))))))))) else (none)) else (none)) = some (r1, r2, r3, r4, r5, r6) := by first | (rw [hji6] at H; exact H) | (simp only [hji6] at H ⊢; exact H)
  (try rw [hji6] at A2)
  (try rw [hji6] at A5)
  (try (have hji6h : ji6 ≤ 200 := by (rw [← hji6]; unfold mn; (repeat' split) <;> omega)))
  (try (have hji6g : ji6 ≤ 64 := by omega))
  (try (have hji6l : 0 ≤ ji6 := by (rw [← hji6]; unfold mn; (repeat' split) <;> omega)))
  (try (have hji6m : 0 ≤ ji6 := by omega))
  have hji6_ : (if 200 < (a0_5.size : Int) then 200 else (a0_5.size : Int)) = ji6 := hji6
  by_cases c7 : 0 ≤ (ji6)
  rotate_left
  · rw [if_neg c7] at H
    exact absurd H (by simp)
  rw [if_pos c7] at H
  have c7b0 := eq_true c7
  have c7b1 : decide (0 ≤ (ji6)) = true := decide_eq_true c7
  clear c7
  by_cases c8 : (ji6) ≤ (a0_5.size : Int)
  rotate_left
  · rw [if_neg c8] at H
    exact absurd H (by simp)
  rw [if_pos c8] at H
  have c8b0 := eq_true c8
  have c8b1 : decide ((ji6) ≤ (a0_5.size : Int)) = true := decide_eq_true c8
  clear c8
  by_cases c9 : (wrap64 (8 + t108)) = 15
  · rw [if_pos c9] at H
    have c9b0 : ((wrap64 (8 + t108)) == 15) = true := beq_iff_eq.mpr c9
    have c9b1 : ((wrap64 (8 + t108)) != 15) = false := bne_eq_false_iff_eq.mpr c9
    clear c9
    obtain ⟨y110, hy110⟩ : ∃ y_ : List Int, y_ = (([240, 247] : List Int)) := ⟨_, rfl⟩
    replace H : ((partitalaw16_pick.f a0_3 2).bind fun t113 => (if 0 ≤ t113 then (if t113 < (y110.length : Int) then (some (rd y103 t106, wrap64 (8 + t108), 0, rd y110 t113, 0, a0_5.extract 0 ((ji6) : Int).toNat)) else (none)) else (none))) = some (r1, r2, r3, r4, r5, r6) := by first | (rw [hy110]; with_reducible exact H) | (have H2_ := (Option.bind_some _ _).symm.trans H; rw [hy110]; with_reducible exact H2_) | (have H2_ := (Option.bind_some _ _).symm.trans H; with_reducible exact H2_) | with_reducible exact H | (rw [hy110]; exact H) | exact H
    have Ny110 := Aside0.mk hy110
    clear hy110
    replace H := Option.bind_eq_some_iff.mp H
    obtain ⟨t113, A100, H⟩ := H
    try dsimp -simprocs only at H
    have A10 := Aside0.mk A100
    clear A100
    by_cases c11 : 0 ≤ t113
    rotate_left
    · rw [if_neg c11] at H
      exact absurd H (by simp)
    rw [if_pos c11] at H
    have c11b0 : decide (0 ≤ t113) = true := decide_eq_true c11
    clear c11
    by_cases c12 : t113 < (y110.length : Int)
    rotate_left
    · rw [if_neg c12] at H
      exact absurd H (by simp)
    rw [if_pos c12] at H
    have c12b0 : decide (t113 < (y110.length : Int)) = true := decide_eq_true c12
    clear c12
    simp only [Option.some.injEq, Prod.mk.injEq] at H
    obtain ⟨rfl, rfl, rfl, rfl, rfl, rfl⟩ := H
    have hnb28 := NB101_102.out
    have hnc28 := NB102_101.out
    have hnb29 := NB101_109.out
    have hnc29 := NB109_101.out
    obtain ⟨hcz30_0, hcz30_1, hcz30_2, hcz30_3, hcz30_4, hcz30_5, hfz30_0, hfz30_1, hfz30_2, hfz30_3, hfz30_4, hfz30_5⟩ := blk6 BK101.out
    have hnb31 := NB109_102.out
    have hnc31 := NB102_109.out
    obtain ⟨hcz32_0, hcz32_1, hcz32_2, hcz32_3, hcz32_4, hcz32_5, hfz32_0, hfz32_1, hfz32_2, hfz32_3, hfz32_4, hfz32_5⟩ := blk6 BK109.out
    try go_wp2_with (first | ((with_reducible refine gate_dst (N := 47) rfl ?_); refine Kd.R_lit (Kd.int .i64) _ 3 ?hg (N := 47) ?hd (xs := ([240, 247] : List Int)) (inner := [.int .i64 240, .int .i64 247]) (ok := fun _ => True) (okp := fun _ => True) ?hr ?hp (fun _ hk => hk) trivial (Below.refl _ _) (Nat.le_refl _) (by simp) ?_; (case hd => rfl); (case hg => rfl); (case hr => exact qq6); (case hp => exact (Reps.one (show Kd.M (Kd.int .i64) _ _ _ 240 [.int .i64 240] from rfl) (Reps.one (show Kd.M (Kd.int .i64) _ _ _ 247 [.int .i64 247] from rfl) (Reps.none _ _)))); intro v111 w33 ho34 hb hg_ hnew_; clear hg_ hnew_; (first | rw [← Ny110.out] at ho34 | (simp only [Int.reduceToNat] at ho34; rw [← Ny110.out] at ho34)); have HO112 := Aside0.mk (Kd.R_lower (Kd.R_new' ho34 (Kd.R_lt qqt)) (below_size (qS3 GE101 GE102 GE109 HB.out))); replace HO105 := Aside0.mk (Kd.R_elder' qqt (Kd.R_base ho34) hb); replace BK101 := Aside0.mk (blk_below (g := gb101) (o := .cells #[.int .i64 a0_0, .int .i64 a0_1, .int .i64 a0_2, .int .i64 a0_3, .int .i64 a0_4, .string a0_5] 28 (0, 0)) (by refine bq ?_; refine blk_far ?_ NB101_109.out _; refine bq ?_; refine blk_far ?_ NB101_109.out _; refine bq ?_; refine blk_far ?_ NB101_109.out _; refine bq ?_; refine blk_far ?_ NB101_109.out _; refine bq ?_; refine blk_far ?_ NB101_109.out _; refine bq ?_; refine blk_far ?_ NB101_109.out _; exact bq BK101.out) hb); replace BK102 := Aside0.mk (blk_below (g := gb102) (o := .cells #[.int .i64 0, .int .i64 0, .int .i64 0, .int .i64 0, .int .i64 0, .string (⟨#[]⟩ : ByteArray)] 28 (0, 0)) (by refine bq ?_; refine blk_far ?_ NB102_109.out _; refine bq ?_; refine blk_far ?_ NB102_109.out _; refine bq ?_; refine blk_far ?_ NB102_109.out _; refine bq ?_; refine blk_far ?_ NB102_109.out _; refine bq ?_; refine blk_far ?_ NB102_109.out _; refine bq ?_; refine blk_far ?_ NB102_109.out _; exact bq BK102.out) hb); replace BK109 := Aside0.mk (blk_below (g := gb109) (o := .cells #[.int .i64 (rd y103 t106), .int .i64 (wrap64 (8 + t108)), .int .i64 0, .int .i64 0, .int .i64 0, .string (⟨#[]⟩ : ByteArray)] 28 (0, 0)) (by refine bq ?_; refine blk_put (cs := #[.int .i64 (rd y103 t106), .int .i64 (wrap64 (8 + t108)), .int .i64 0, .int .i64 0, .int .i64 0, .string (⟨#[]⟩ : ByteArray)]) ?_ 5 _ rfl; refine bq ?_; refine blk_put (cs := #[.int .i64 (rd y103 t106), .int .i64 (wrap64 (8 + t108)), .int .i64 0, .int .i64 0, .int .i64 0, .string (⟨#[]⟩ : ByteArray)]) ?_ 4 _ rfl; refine bq ?_; refine blk_put (cs := #[.int .i64 (rd y103 t106), .int .i64 (wrap64 (8 + t108)), .int .i64 0, .int .i64 0, .int .i64 0, .string (⟨#[]⟩ : ByteArray)]) ?_ 3 _ rfl; refine bq ?_; refine blk_put (cs := #[.int .i64 (rd y103 t106), .int .i64 (wrap64 (8 + t108)), .int .i64 0, .int .i64 0, .int .i64 0, .string (⟨#[]⟩ : ByteArray)]) ?_ 2 _ rfl; refine bq ?_; refine blk_put (cs := #[.int .i64 (rd y103 t106), .int .i64 0, .int .i64 0, .int .i64 0, .int .i64 0, .string (⟨#[]⟩ : ByteArray)]) ?_ 1 _ rfl; refine bq ?_; refine blk_put (cs := #[.int .i64 0, .int .i64 0, .int .i64 0, .int .i64 0, .int .i64 0, .string (⟨#[]⟩ : ByteArray)]) ?_ 0 _ rfl; exact bq BK109.out) hb); replace HB := Aside0.mk (below_step (qS3 GE101 GE102 GE109 HB.out) hb); clear hb ho34; obtain ⟨hcz35_0, hcz35_1, hcz35_2, hcz35_3, hcz35_4, hcz35_5, hfz35_0, hfz35_1, hfz35_2, hfz35_3, hfz35_4, hfz35_5⟩ := blk6 BK101.out) | ((with_reducible refine gate_callee (f := 19) rfl ?_); refine goesL_ (some 50) rfl rfl Try.func19 (by kernel_rfl) rfl #[.int .i64 a0_3, .int .i64 2] rfl qq0 ?_; (with_reducible refine (partitalaw16_pick.calls a0_3 2 t113 _ A10.out).mono ?_); rintro e w' ⟨rfl, ⟨nd, rfl⟩⟩; refine ⟨_, rfl, ?_⟩; (try (rw [drewN_self w33]; generalize hq_ : World.drewN w33 _ = w33; have n0_ : Aside0 (Kd.R (Kd.int .i64) 3 w33 w.heap.size (fun k_ => some k_ ≠ (v111 : Value).ownBlock) (.slice (some adz_v104) y103.length co21) y103) := ⟨by rw [← hq_]; exact (by (with_reducible repeat (first | apply Kd.R_alloc | apply Kd.R_drewN | apply Kd.R_drew)); exact Kd.R_mono HO105.out (fun _ hk => hk.2))⟩; have n1_ : Aside0 (Kd.R (Kd.int .i64) 3 w33 w.heap.size (fun k_ => some k_ ≠ (.slice (some adz_v104) y103.length co21 : Value).ownBlock) v111 y110) := ⟨by rw [← hq_]; exact (by (with_reducible repeat (first | apply Kd.R_alloc | apply Kd.R_drewN | apply Kd.R_drew)); exact Kd.R_mono HO112.out (fun _ hk => hk.2))⟩; have n2_ : Aside0 (w33.heap[gb101]? = some (.cells #[.int .i64 a0_0, .int .i64 a0_1, .int .i64 a0_2, .int .i64 a0_3, .int .i64 a0_4, .string a0_5] 28 (0, 0))) := ⟨by rw [← hq_]; exact (bq BK101.out)⟩; have n3_ : Aside0 (w33.heap[gb102]? = some (.cells #[.int .i64 0, .int .i64 0, .int .i64 0, .int .i64 0, .int .i64 0, .string (⟨#[]⟩ : ByteArray)] 28 (0, 0))) := ⟨by rw [← hq_]; exact (bq BK102.out)⟩; have n4_ : Aside0 (w33.heap[gb109]? = some (.cells #[.int .i64 (rd y103 t106), .int .i64 (wrap64 (8 + t108)), .int .i64 0, .int .i64 0, .int .i64 0, .string (⟨#[]⟩ : ByteArray)] 28 (0, 0))) := ⟨by rw [← hq_]; exact (bq BK109.out)⟩; have n5_ : Aside0 (Below w.heap.size w w33) := ⟨by rw [← hq_]; exact (qS3 GE101 GE102 GE109 HB.out)⟩; clear HO105 HO112 BK101 BK102 BK109 HB hq_; have HO105 := n0_; have HO112 := n1_; have BK101 := n2_; have BK102 := n3_; have BK109 := n4_; have HB := n5_; clear n0_ n1_ n2_ n3_ n4_ n5_)); obtain ⟨hcz36_0, hcz36_1, hcz36_2, hcz36_3, hcz36_4, hcz36_5, hfz36_0, hfz36_1, hfz36_2, hfz36_3, hfz36_4, hfz36_5⟩ := blk6 BK101.out; obtain ⟨Ao37, co37, eo37⟩ := Kd.R_slice HO112.out; subst eo37; have p114 : 0 ≤ (t113 : Int) := of_decide_eq_true qq4; have q114 : t113 < (y110.length : Int) := of_decide_eq_true qq4; obtain ⟨ad114, e114, hx114_0⟩ := Kd.at_int (Kd.R_reads' HO112.out).2.2 t113 p114 q114; cases e114; replace p114 := eq_true p114; replace q114 := eq_true q114; obtain ⟨hcz38_0, hcz38_1, hcz38_2, hcz38_3, hcz38_4, hcz38_5, hfz38_0, hfz38_1, hfz38_2, hfz38_3, hfz38_4, hfz38_5⟩ := blk6 BK109.out; obtain ⟨hcz39_0, hcz39_1, hcz39_2, hcz39_3, hcz39_4, hcz39_5, hfz39_0, hfz39_1, hfz39_2, hfz39_3, hfz39_4, hfz39_5⟩ := blk6 BK102.out))
    refine bodyPost_ret (results_cell_row rfl _ _ gb102 28 #[.int .i64 (rd y103 t106), .int .i64 (wrap64 (8 + t108)), .int .i64 0, .int .i64 (rd y110 t113), .int .i64 0, .string (a0_5.extract 0 ((ji6) : Int).toNat)] (0, 0) _ rfl (by refine bq ?_; refine blk_put (cs := #[.int .i64 (rd y103 t106), .int .i64 (wrap64 (8 + t108)), .int .i64 0, .int .i64 (rd y110 t113), .int .i64 0, .string (⟨#[]⟩ : ByteArray)]) ?_ 5 _ rfl; refine bq ?_; refine blk_put (cs := #[.int .i64 (rd y103 t106), .int .i64 (wrap64 (8 + t108)), .int .i64 0, .int .i64 (rd y110 t113), .int .i64 0, .string (⟨#[]⟩ : ByteArray)]) ?_ 4 _ rfl; refine bq ?_; refine blk_put (cs := #[.int .i64 (rd y103 t106), .int .i64 (wrap64 (8 + t108)), .int .i64 0, .int .i64 0, .int .i64 0, .string (⟨#[]⟩ : ByteArray)]) ?_ 3 _ rfl; refine bq ?_; refine blk_put (cs := #[.int .i64 (rd y103 t106), .int .i64 (wrap64 (8 + t108)), .int .i64 0, .int .i64 0, .int .i64 0, .string (⟨#[]⟩ : ByteArray)]) ?_ 2 _ rfl; refine bq ?_; refine blk_put (cs := #[.int .i64 (rd y103 t106), .int .i64 0, .int .i64 0, .int .i64 0, .int .i64 0, .string (⟨#[]⟩ : ByteArray)]) ?_ 1 _ rfl; refine bq ?_; refine blk_put (cs := #[.int .i64 0, .int .i64 0, .int .i64 0, .int .i64 0, .int .i64 0, .string (⟨#[]⟩ : ByteArray)]) ?_ 0 _ rfl; refine bq ?_; refine blk_far ?_ NB102_109.out _; refine bq ?_; refine blk_far ?_ NB102_109.out _; exact bq BK102.out) Try.underlying28 rfl (by kernel_rfl)) rfl ?_
    exact ⟨qqr, qS3 GE101 GE102 GE109 HB.out⟩
  rw [if_neg c9] at H
  have c9b0 : ((wrap64 (8 + t108)) == 15) = false := beq_eq_false_iff_ne.mpr c9
  have c9b1 : ((wrap64 (8 + t108)) != 15) = true := bne_iff_ne.mpr c9
  by_cases c40 : (wrap64 (8 + t108)) = 16
  · rw [if_pos c40] at H
    have c40b0 : ((wrap64 (8 + t108)) == 16) = true := beq_iff_eq.mpr c40
    have c40b1 : ((wrap64 (8 + t108)) != 16) = false := bne_eq_false_iff_eq.mpr c40
    clear c40
    replace H := Option.bind_eq_some_iff.mp H
    obtain ⟨t115, A410, H⟩ := H
    try dsimp -simprocs only at H
    have A41 := Aside0.mk A410
    clear A410
    simp only [Option.some.injEq, Prod.mk.injEq] at H
    obtain ⟨rfl, rfl, rfl, rfl, rfl, rfl⟩ := H
    obtain ⟨w21, hw21⟩ : ∃ W_ : World, W_ = ((((((w20.setCell ⟨gb109, 0, none⟩ (.int .i64 (rd y103 t106))).setCell ⟨gb109, 1, none⟩ (.int .i64 (wrap64 (8 + t108)))).setCell ⟨gb109, 2, none⟩ (.int .i64 0)).setCell ⟨gb109, 3, none⟩ (.int .i64 0)).setCell ⟨gb109, 4, none⟩ (.int .i64 0)).setCell ⟨gb109, 5, none⟩ (.string (⟨#[]⟩ : ByteArray))) := ⟨_, rfl⟩
    have n0_ : Aside0 (w21.heap[gb109]? = some (.cells #[.int .i64 (rd y103 t106), .int .i64 (wrap64 (8 + t108)), .int .i64 0, .int .i64 0, .int .i64 0, .string (⟨#[]⟩ : ByteArray)] 28 (0, 0))) := ⟨qqo⟩
    have n1_ : Aside0 (w21.heap[gb101]? = some (.cells #[.int .i64 a0_0, .int .i64 a0_1, .int .i64 a0_2, .int .i64 a0_3, .int .i64 a0_4, .string a0_5] 28 (0, 0))) := ⟨qqz⟩
    have n2_ : Aside0 (w21.heap[gb102]? = some (.cells #[.int .i64 0, .int .i64 0, .int .i64 0, .int .i64 0, .int .i64 0, .string (⟨#[]⟩ : ByteArray)] 28 (0, 0))) := ⟨qqy⟩
    have n3_ : Aside0 (Below w.heap.size w w21) := ⟨qqG⟩
    rw [← hw21]
    clear hw21 BK109 BK101 BK102 HB hHeld
    have BK109 := n0_
    have BK101 := n1_
    have BK102 := n2_
    have HB := n3_
    clear n0_ n1_ n2_ n3_
    have hnb57 := NB101_102.out
    have hnc57 := NB102_101.out
    have hnb58 := NB101_109.out
    have hnc58 := NB109_101.out
    obtain ⟨hcz59_0, hcz59_1, hcz59_2, hcz59_3, hcz59_4, hcz59_5, hfz59_0, hfz59_1, hfz59_2, hfz59_3, hfz59_4, hfz59_5⟩ := blk6 BK101.out
    have hnb60 := NB109_102.out
    have hnc60 := NB102_109.out
    obtain ⟨hcz61_0, hcz61_1, hcz61_2, hcz61_3, hcz61_4, hcz61_5, hfz61_0, hfz61_1, hfz61_2, hfz61_3, hfz61_4, hfz61_5⟩ := blk6 BK109.out
    try go_wp2_with (first | ((with_reducible refine gate_callee (f := 19) rfl ?_); refine goesL_ (some 60) rfl rfl Try.func19 (by kernel_rfl) rfl #[.int .i64 a0_3, .int .i64 47] rfl qq0 ?_; (with_reducible refine (partitalaw16_pick.calls a0_3 47 t115 _ A41.out).mono ?_); rintro e w' ⟨rfl, ⟨nd, rfl⟩⟩; refine ⟨_, rfl, ?_⟩; obtain ⟨hcz62_0, hcz62_1, hcz62_2, hcz62_3, hcz62_4, hcz62_5, hfz62_0, hfz62_1, hfz62_2, hfz62_3, hfz62_4, hfz62_5⟩ := blk6 BK102.out))
    refine bodyPost_ret (results_cell_row rfl _ _ gb102 28 #[.int .i64 (rd y103 t106), .int .i64 (wrap64 (8 + t108)), .int .i64 0, .int .i64 t115, .int .i64 0, .string (a0_5.extract 0 ((ji6) : Int).toNat)] (0, 0) _ rfl (by refine bq ?_; refine blk_put (cs := #[.int .i64 (rd y103 t106), .int .i64 (wrap64 (8 + t108)), .int .i64 0, .int .i64 t115, .int .i64 0, .string (⟨#[]⟩ : ByteArray)]) ?_ 5 _ rfl; refine bq ?_; refine blk_put (cs := #[.int .i64 (rd y103 t106), .int .i64 (wrap64 (8 + t108)), .int .i64 0, .int .i64 t115, .int .i64 0, .string (⟨#[]⟩ : ByteArray)]) ?_ 4 _ rfl; refine bq ?_; refine blk_put (cs := #[.int .i64 (rd y103 t106), .int .i64 (wrap64 (8 + t108)), .int .i64 0, .int .i64 0, .int .i64 0, .string (⟨#[]⟩ : ByteArray)]) ?_ 3 _ rfl; refine bq ?_; refine blk_put (cs := #[.int .i64 (rd y103 t106), .int .i64 (wrap64 (8 + t108)), .int .i64 0, .int .i64 0, .int .i64 0, .string (⟨#[]⟩ : ByteArray)]) ?_ 2 _ rfl; refine bq ?_; refine blk_put (cs := #[.int .i64 (rd y103 t106), .int .i64 0, .int .i64 0, .int .i64 0, .int .i64 0, .string (⟨#[]⟩ : ByteArray)]) ?_ 1 _ rfl; refine bq ?_; refine blk_put (cs := #[.int .i64 0, .int .i64 0, .int .i64 0, .int .i64 0, .int .i64 0, .string (⟨#[]⟩ : ByteArray)]) ?_ 0 _ rfl; refine bq ?_; refine blk_far ?_ NB102_109.out _; refine bq ?_; refine blk_far ?_ NB102_109.out _; exact bq BK102.out) Try.underlying28 rfl (by kernel_rfl)) rfl ?_
    exact ⟨qqr, qS3 GE101 GE102 GE109 HB.out⟩
  rw [if_neg c40] at H
  have c40b0 : ((wrap64 (8 + t108)) == 16) = false := beq_eq_false_iff_ne.mpr c40
  have c40b1 : ((wrap64 (8 + t108)) != 16) = true := bne_iff_ne.mpr c40
  replace H := Option.bind_eq_some_iff.mp H
  obtain ⟨t116, A630, H⟩ := H
  try dsimp -simprocs only at H
  have A63 := Aside0.mk A630
  clear A630
  replace H := Option.bind_eq_some_iff.mp H
  obtain ⟨t117, A640, H⟩ := H
  try dsimp -simprocs only at H
  have A64 := Aside0.mk A640
  clear A640
  by_cases c65 : (wrap64 (8 + t108)) = 12
  · rw [if_pos c65] at H
    have c65b0 : ((wrap64 (8 + t108)) == 12) = true := beq_iff_eq.mpr c65
    have c65b1 : ((wrap64 (8 + t108)) != 12) = false := bne_eq_false_iff_eq.mpr c65
    clear c65
    simp only [Option.some.injEq, Prod.mk.injEq] at H
    obtain ⟨rfl, rfl, rfl, rfl, rfl, rfl⟩ := H
    obtain ⟨w21, hw21⟩ : ∃ W_ : World, W_ = ((((((w20.setCell ⟨gb109, 0, none⟩ (.int .i64 (rd y103 t106))).setCell ⟨gb109, 1, none⟩ (.int .i64 (wrap64 (8 + t108)))).setCell ⟨gb109, 2, none⟩ (.int .i64 0)).setCell ⟨gb109, 3, none⟩ (.int .i64 0)).setCell ⟨gb109, 4, none⟩ (.int .i64 0)).setCell ⟨gb109, 5, none⟩ (.string (⟨#[]⟩ : ByteArray))) := ⟨_, rfl⟩
    have n0_ : Aside0 (w21.heap[gb109]? = some (.cells #[.int .i64 (rd y103 t106), .int .i64 (wrap64 (8 + t108)), .int .i64 0, .int .i64 0, .int .i64 0, .string (⟨#[]⟩ : ByteArray)] 28 (0, 0))) := ⟨qqo⟩
    have n1_ : Aside0 (w21.heap[gb101]? = some (.cells #[.int .i64 a0_0, .int .i64 a0_1, .int .i64 a0_2, .int .i64 a0_3, .int .i64 a0_4, .string a0_5] 28 (0, 0))) := ⟨qqz⟩
    have n2_ : Aside0 (w21.heap[gb102]? = some (.cells #[.int .i64 0, .int .i64 0, .int .i64 0, .int .i64 0, .int .i64 0, .string (⟨#[]⟩ : ByteArray)] 28 (0, 0))) := ⟨qqy⟩
    have n3_ : Aside0 (Below w.heap.size w w21) := ⟨qqG⟩
    rw [← hw21]
    clear hw21 BK109 BK101 BK102 HB hHeld
    have BK109 := n0_
    have BK101 := n1_
    have BK102 := n2_
    have HB := n3_
    clear n0_ n1_ n2_ n3_
    have hnb81 := NB101_102.out
    have hnc81 := NB102_101.out
    have hnb82 := NB101_109.out
    have hnc82 := NB109_101.out
    obtain ⟨hcz83_0, hcz83_1, hcz83_2, hcz83_3, hcz83_4, hcz83_5, hfz83_0, hfz83_1, hfz83_2, hfz83_3, hfz83_4, hfz83_5⟩ := blk6 BK101.out
    have hnb84 := NB109_102.out
    have hnc84 := NB102_109.out
    obtain ⟨hcz85_0, hcz85_1, hcz85_2, hcz85_3, hcz85_4, hcz85_5, hfz85_0, hfz85_1, hfz85_2, hfz85_3, hfz85_4, hfz85_5⟩ := blk6 BK109.out
    try go_wp2_with (first | ((with_reducible refine gate_callee (f := 19) rfl ?_); refine goesL_ (some 27) rfl rfl Try.func19 (by kernel_rfl) rfl #[.int .i64 a0_2, .int .i64 16] rfl qq0 ?_; (with_reducible refine (partitalaw16_pick.calls a0_2 16 t116 _ A63.out).mono ?_); rintro e w' ⟨rfl, ⟨nd, rfl⟩⟩; refine ⟨_, rfl, ?_⟩) | ((with_reducible refine gate_callee (f := 19) rfl ?_); refine goesL_ (some 31) rfl rfl Try.func19 (by kernel_rfl) rfl #[.int .i64 a0_3, .int .i64 128] rfl qq0 ?_; (with_reducible refine (partitalaw16_pick.calls a0_3 128 t117 _ A64.out).mono ?_); rintro e w' ⟨rfl, ⟨nd, rfl⟩⟩; refine ⟨_, rfl, ?_⟩; obtain ⟨hcz86_0, hcz86_1, hcz86_2, hcz86_3, hcz86_4, hcz86_5, hfz86_0, hfz86_1, hfz86_2, hfz86_3, hfz86_4, hfz86_5⟩ := blk6 BK102.out))
    refine bodyPost_ret (results_cell_row rfl _ _ gb102 28 #[.int .i64 (rd y103 t106), .int .i64 (wrap64 (8 + t108)), .int .i64 t116, .int .i64 t117, .int .i64 0, .string (⟨#[]⟩ : ByteArray)] (0, 0) _ rfl (by refine bq ?_; refine blk_put (cs := #[.int .i64 (rd y103 t106), .int .i64 (wrap64 (8 + t108)), .int .i64 t116, .int .i64 t117, .int .i64 0, .string (⟨#[]⟩ : ByteArray)]) ?_ 5 _ rfl; refine bq ?_; refine blk_put (cs := #[.int .i64 (rd y103 t106), .int .i64 (wrap64 (8 + t108)), .int .i64 t116, .int .i64 t117, .int .i64 0, .string (⟨#[]⟩ : ByteArray)]) ?_ 4 _ rfl; refine bq ?_; refine blk_put (cs := #[.int .i64 (rd y103 t106), .int .i64 (wrap64 (8 + t108)), .int .i64 t116, .int .i64 0, .int .i64 0, .string (⟨#[]⟩ : ByteArray)]) ?_ 3 _ rfl; refine bq ?_; refine blk_put (cs := #[.int .i64 (rd y103 t106), .int .i64 (wrap64 (8 + t108)), .int .i64 0, .int .i64 0, .int .i64 0, .string (⟨#[]⟩ : ByteArray)]) ?_ 2 _ rfl; refine bq ?_; refine blk_put (cs := #[.int .i64 (rd y103 t106), .int .i64 0, .int .i64 0, .int .i64 0, .int .i64 0, .string (⟨#[]⟩ : ByteArray)]) ?_ 1 _ rfl; refine bq ?_; refine blk_put (cs := #[.int .i64 0, .int .i64 0, .int .i64 0, .int .i64 0, .int .i64 0, .string (⟨#[]⟩ : ByteArray)]) ?_ 0 _ rfl; refine bq ?_; refine blk_far ?_ NB102_109.out _; refine bq ?_; refine blk_far ?_ NB102_109.out _; exact bq BK102.out) Try.underlying28 rfl (by kernel_rfl)) rfl ?_
    exact ⟨qqr, qS3 GE101 GE102 GE109 HB.out⟩
  rw [if_neg c65] at H
  have c65b0 : ((wrap64 (8 + t108)) == 12) = false := beq_eq_false_iff_ne.mpr c65
  have c65b1 : ((wrap64 (8 + t108)) != 12) = true := bne_iff_ne.mpr c65
  by_cases c87 : (wrap64 (8 + t108)) = 13
  · rw [if_pos c87] at H
    have c87b0 : ((wrap64 (8 + t108)) == 13) = true := beq_iff_eq.mpr c87
    have c87b1 : ((wrap64 (8 + t108)) != 13) = false := bne_eq_false_iff_eq.mpr c87
    clear c87
    simp only [Option.some.injEq, Prod.mk.injEq] at H
    obtain ⟨rfl, rfl, rfl, rfl, rfl, rfl⟩ := H
    obtain ⟨w21, hw21⟩ : ∃ W_ : World, W_ = ((((((w20.setCell ⟨gb109, 0, none⟩ (.int .i64 (rd y103 t106))).setCell ⟨gb109, 1, none⟩ (.int .i64 (wrap64 (8 + t108)))).setCell ⟨gb109, 2, none⟩ (.int .i64 0)).setCell ⟨gb109, 3, none⟩ (.int .i64 0)).setCell ⟨gb109, 4, none⟩ (.int .i64 0)).setCell ⟨gb109, 5, none⟩ (.string (⟨#[]⟩ : ByteArray))) := ⟨_, rfl⟩
    have n0_ : Aside0 (w21.heap[gb109]? = some (.cells #[.int .i64 (rd y103 t106), .int .i64 (wrap64 (8 + t108)), .int .i64 0, .int .i64 0, .int .i64 0, .string (⟨#[]⟩ : ByteArray)] 28 (0, 0))) := ⟨qqo⟩
    have n1_ : Aside0 (w21.heap[gb101]? = some (.cells #[.int .i64 a0_0, .int .i64 a0_1, .int .i64 a0_2, .int .i64 a0_3, .int .i64 a0_4, .string a0_5] 28 (0, 0))) := ⟨qqz⟩
    have n2_ : Aside0 (w21.heap[gb102]? = some (.cells #[.int .i64 0, .int .i64 0, .int .i64 0, .int .i64 0, .int .i64 0, .string (⟨#[]⟩ : ByteArray)] 28 (0, 0))) := ⟨qqy⟩
    have n3_ : Aside0 (Below w.heap.size w w21) := ⟨qqG⟩
    rw [← hw21]
    clear hw21 BK109 BK101 BK102 HB hHeld
    have BK109 := n0_
    have BK101 := n1_
    have BK102 := n2_
    have HB := n3_
    clear n0_ n1_ n2_ n3_
    have hnb103 := NB101_102.out
    have hnc103 := NB102_101.out
    have hnb104 := NB101_109.out
    have hnc104 := NB109_101.out
    obtain ⟨hcz105_0, hcz105_1, hcz105_2, hcz105_3, hcz105_4, hcz105_5, hfz105_0, hfz105_1, hfz105_2, hfz105_3, hfz105_4, hfz105_5⟩ := blk6 BK101.out
    have hnb106 := NB109_102.out
    have hnc106 := NB102_109.out
    obtain ⟨hcz107_0, hcz107_1, hcz107_2, hcz107_3, hcz107_4, hcz107_5, hfz107_0, hfz107_1, hfz107_2, hfz107_3, hfz107_4, hfz107_5⟩ := blk6 BK109.out
    try go_wp2_with (first | ((with_reducible refine gate_callee (f := 19) rfl ?_); refine goesL_ (some 27) rfl rfl Try.func19 (by kernel_rfl) rfl #[.int .i64 a0_2, .int .i64 16] rfl qq0 ?_; (with_reducible refine (partitalaw16_pick.calls a0_2 16 t116 _ A63.out).mono ?_); rintro e w' ⟨rfl, ⟨nd, rfl⟩⟩; refine ⟨_, rfl, ?_⟩) | ((with_reducible refine gate_callee (f := 19) rfl ?_); refine goesL_ (some 31) rfl rfl Try.func19 (by kernel_rfl) rfl #[.int .i64 a0_3, .int .i64 128] rfl qq0 ?_; (with_reducible refine (partitalaw16_pick.calls a0_3 128 t117 _ A64.out).mono ?_); rintro e w' ⟨rfl, ⟨nd, rfl⟩⟩; refine ⟨_, rfl, ?_⟩; obtain ⟨hcz108_0, hcz108_1, hcz108_2, hcz108_3, hcz108_4, hcz108_5, hfz108_0, hfz108_1, hfz108_2, hfz108_3, hfz108_4, hfz108_5⟩ := blk6 BK102.out))
    refine bodyPost_ret (results_cell_row rfl _ _ gb102 28 #[.int .i64 (rd y103 t106), .int .i64 (wrap64 (8 + t108)), .int .i64 t116, .int .i64 t117, .int .i64 0, .string (⟨#[]⟩ : ByteArray)] (0, 0) _ rfl (by refine bq ?_; refine blk_put (cs := #[.int .i64 (rd y103 t106), .int .i64 (wrap64 (8 + t108)), .int .i64 t116, .int .i64 t117, .int .i64 0, .string (⟨#[]⟩ : ByteArray)]) ?_ 5 _ rfl; refine bq ?_; refine blk_put (cs := #[.int .i64 (rd y103 t106), .int .i64 (wrap64 (8 + t108)), .int .i64 t116, .int .i64 t117, .int .i64 0, .string (⟨#[]⟩ : ByteArray)]) ?_ 4 _ rfl; refine bq ?_; refine blk_put (cs := #[.int .i64 (rd y103 t106), .int .i64 (wrap64 (8 + t108)), .int .i64 t116, .int .i64 0, .int .i64 0, .string (⟨#[]⟩ : ByteArray)]) ?_ 3 _ rfl; refine bq ?_; refine blk_put (cs := #[.int .i64 (rd y103 t106), .int .i64 (wrap64 (8 + t108)), .int .i64 0, .int .i64 0, .int .i64 0, .string (⟨#[]⟩ : ByteArray)]) ?_ 2 _ rfl; refine bq ?_; refine blk_put (cs := #[.int .i64 (rd y103 t106), .int .i64 0, .int .i64 0, .int .i64 0, .int .i64 0, .string (⟨#[]⟩ : ByteArray)]) ?_ 1 _ rfl; refine bq ?_; refine blk_put (cs := #[.int .i64 0, .int .i64 0, .int .i64 0, .int .i64 0, .int .i64 0, .string (⟨#[]⟩ : ByteArray)]) ?_ 0 _ rfl; refine bq ?_; refine blk_far ?_ NB102_109.out _; refine bq ?_; refine blk_far ?_ NB102_109.out _; exact bq BK102.out) Try.underlying28 rfl (by kernel_rfl)) rfl ?_
    exact ⟨qqr, qS3 GE101 GE102 GE109 HB.out⟩
  rw [if_neg c87] at H
  have c87b0 : ((wrap64 (8 + t108)) == 13) = false := beq_eq_false_iff_ne.mpr c87
  have c87b1 : ((wrap64 (8 + t108)) != 13) = true := bne_iff_ne.mpr c87
  replace H := Option.bind_eq_some_iff.mp H
  obtain ⟨t118, A1090, H⟩ := H
  try dsimp -simprocs only at H
  have A109 := Aside0.mk A1090
  clear A1090
  simp only [Option.some.injEq, Prod.mk.injEq] at H
  obtain ⟨rfl, rfl, rfl, rfl, rfl, rfl⟩ := H
  obtain ⟨w21, hw21⟩ : ∃ W_ : World, W_ = ((((((w20.setCell ⟨gb109, 0, none⟩ (.int .i64 (rd y103 t106))).setCell ⟨gb109, 1, none⟩ (.int .i64 (wrap64 (8 + t108)))).setCell ⟨gb109, 2, none⟩ (.int .i64 0)).setCell ⟨gb109, 3, none⟩ (.int .i64 0)).setCell ⟨gb109, 4, none⟩ (.int .i64 0)).setCell ⟨gb109, 5, none⟩ (.string (⟨#[]⟩ : ByteArray))) := ⟨_, rfl⟩
  have n0_ : Aside0 (w21.heap[gb109]? = some (.cells #[.int .i64 (rd y103 t106), .int .i64 (wrap64 (8 + t108)), .int .i64 0, .int .i64 0, .int .i64 0, .string (⟨#[]⟩ : ByteArray)] 28 (0, 0))) := ⟨qqo⟩
  have n1_ : Aside0 (w21.heap[gb101]? = some (.cells #[.int .i64 a0_0, .int .i64 a0_1, .int .i64 a0_2, .int .i64 a0_3, .int .i64 a0_4, .string a0_5] 28 (0, 0))) := ⟨qqz⟩
  have n2_ : Aside0 (w21.heap[gb102]? = some (.cells #[.int .i64 0, .int .i64 0, .int .i64 0, .int .i64 0, .int .i64 0, .string (⟨#[]⟩ : ByteArray)] 28 (0, 0))) := ⟨qqy⟩
  have n3_ : Aside0 (Below w.heap.size w w21) := ⟨qqG⟩
  rw [← hw21]
  clear hw21 BK109 BK101 BK102 HB hHeld
  have BK109 := n0_
  have BK101 := n1_
  have BK102 := n2_
  have HB := n3_
  clear n0_ n1_ n2_ n3_
  have hnb125 := NB101_102.out
  have hnc125 := NB102_101.out
  have hnb126 := NB101_109.out
  have hnc126 := NB109_101.out
  obtain ⟨hcz127_0, hcz127_1, hcz127_2, hcz127_3, hcz127_4, hcz127_5, hfz127_0, hfz127_1, hfz127_2, hfz127_3, hfz127_4, hfz127_5⟩ := blk6 BK101.out
  have hnb128 := NB109_102.out
  have hnc128 := NB102_109.out
  obtain ⟨hcz129_0, hcz129_1, hcz129_2, hcz129_3, hcz129_4, hcz129_5, hfz129_0, hfz129_1, hfz129_2, hfz129_3, hfz129_4, hfz129_5⟩ := blk6 BK109.out
  try go_wp2_with (first | ((with_reducible refine gate_callee (f := 19) rfl ?_); refine goesL_ (some 27) rfl rfl Try.func19 (by kernel_rfl) rfl #[.int .i64 a0_2, .int .i64 16] rfl qq0 ?_; (with_reducible refine (partitalaw16_pick.calls a0_2 16 t116 _ A63.out).mono ?_); rintro e w' ⟨rfl, ⟨nd, rfl⟩⟩; refine ⟨_, rfl, ?_⟩) | ((with_reducible refine gate_callee (f := 19) rfl ?_); refine goesL_ (some 31) rfl rfl Try.func19 (by kernel_rfl) rfl #[.int .i64 a0_3, .int .i64 128] rfl qq0 ?_; (with_reducible refine (partitalaw16_pick.calls a0_3 128 t117 _ A64.out).mono ?_); rintro e w' ⟨rfl, ⟨nd, rfl⟩⟩; refine ⟨_, rfl, ?_⟩) | ((with_reducible refine gate_callee (f := 19) rfl ?_); refine goesL_ (some 43) rfl rfl Try.func19 (by kernel_rfl) rfl #[.int .i64 a0_4, .int .i64 128] rfl qq0 ?_; (with_reducible refine (partitalaw16_pick.calls a0_4 128 t118 _ A109.out).mono ?_); rintro e w' ⟨rfl, ⟨nd, rfl⟩⟩; refine ⟨_, rfl, ?_⟩; obtain ⟨hcz130_0, hcz130_1, hcz130_2, hcz130_3, hcz130_4, hcz130_5, hfz130_0, hfz130_1, hfz130_2, hfz130_3, hfz130_4, hfz130_5⟩ := blk6 BK102.out))
  refine bodyPost_ret (results_cell_row rfl _ _ gb102 28 #[.int .i64 (rd y103 t106), .int .i64 (wrap64 (8 + t108)), .int .i64 t116, .int .i64 t117, .int .i64 t118, .string (⟨#[]⟩ : ByteArray)] (0, 0) _ rfl (by refine bq ?_; refine blk_put (cs := #[.int .i64 (rd y103 t106), .int .i64 (wrap64 (8 + t108)), .int .i64 t116, .int .i64 t117, .int .i64 t118, .string (⟨#[]⟩ : ByteArray)]) ?_ 5 _ rfl; refine bq ?_; refine blk_put (cs := #[.int .i64 (rd y103 t106), .int .i64 (wrap64 (8 + t108)), .int .i64 t116, .int .i64 t117, .int .i64 0, .string (⟨#[]⟩ : ByteArray)]) ?_ 4 _ rfl; refine bq ?_; refine blk_put (cs := #[.int .i64 (rd y103 t106), .int .i64 (wrap64 (8 + t108)), .int .i64 t116, .int .i64 0, .int .i64 0, .string (⟨#[]⟩ : ByteArray)]) ?_ 3 _ rfl; refine bq ?_; refine blk_put (cs := #[.int .i64 (rd y103 t106), .int .i64 (wrap64 (8 + t108)), .int .i64 0, .int .i64 0, .int .i64 0, .string (⟨#[]⟩ : ByteArray)]) ?_ 2 _ rfl; refine bq ?_; refine blk_put (cs := #[.int .i64 (rd y103 t106), .int .i64 0, .int .i64 0, .int .i64 0, .int .i64 0, .string (⟨#[]⟩ : ByteArray)]) ?_ 1 _ rfl; refine bq ?_; refine blk_put (cs := #[.int .i64 0, .int .i64 0, .int .i64 0, .int .i64 0, .int .i64 0, .string (⟨#[]⟩ : ByteArray)]) ?_ 0 _ rfl; refine bq ?_; refine blk_far ?_ NB102_109.out _; refine bq ?_; refine blk_far ?_ NB102_109.out _; refine bq ?_; refine blk_far ?_ NB102_109.out _; exact bq BK102.out) Try.underlying28 rfl (by kernel_rfl)) rfl ?_
  exact ⟨qqr, qS3 GE101 GE102 GE109 HB.out⟩
mutual
def partitalaw16_File.l0 : Nat → Int → Int → Int → List (List (S28)) → Int → Int → List (List (S28)) → Option (Int × Int × (List (List (S28))))
  | 0, _, _, _, _, _, _, _ => none
  | k + 1, x4, x102000, x102001, x102002, x106000, x106001, x106002 => if x4 < (x102002.length : Int) then (if x4 < 5 then (if x4 < 1 then (partitalaw16_File.j1 k x4 true x102000 x102001 x102002 x106000 x106001 x106002) else (partitalaw16_File.j1 k x4 (x106000 == 1) x102000 x102001 x102002 x106000 x106001 x106002)) else (partitalaw16_File.j1 k x4 false x102000 x102001 x102002 x106000 x106001 x106002)) else (partitalaw16_File.j1 k x4 false x102000 x102001 x102002 x106000 x106001 x106002)
def partitalaw16_File.j1 : Nat → Int → Bool → Int → Int → List (List (S28)) → Int → Int → List (List (S28)) → Option (Int × Int × (List (List (S28))))
  | 0, _, _, _, _, _, _, _, _ => none
  | k + 1, x4, x32, x102000, x102001, x102002, x106000, x106001, x106002 => if x32 = true then (partitalaw16_File.l1 k x4 ([] : List (S28)) 0 x102000 x102001 x102002 x106000 x106001 x106002) else (if (x106002.length : Int) = 0 then ((partitalaw16_End.f 0).bind fun bt130 => (some (x106000, x106001, (([(([(⟨bt130.1, bt130.2.1, bt130.2.2.1, bt130.2.2.2.1, bt130.2.2.2.2.1, bt130.2.2.2.2.2⟩ : S28)] : List (S28)))] : List (List (S28))))))) else (some (x106000, x106001, x106002)))
def partitalaw16_File.j3 : Nat → Int → List (S28) → Int → Int → List (List (S28)) → Int → Int → List (List (S28)) → Option (Int × Int × (List (List (S28))))
  | 0, _, _, _, _, _, _, _, _ => none
  | k + 1, x4, x5, x102000, x102001, x102002, x106000, x106001, x106002 => (partitalaw16_End.f (x5.length : Int)).bind fun bt118 => (if x5.length < 2513169434916 then (if x106002.length < 5864062014805 then (partitalaw16_File.l0 k (wrap64 (x4 + 1)) x102000 x102001 x102002 x106000 x106001 (x106002 ++ [(x5 ++ [(⟨bt118.1, bt118.2.1, bt118.2.2.1, bt118.2.2.2.1, bt118.2.2.2.2.1, bt118.2.2.2.2.2⟩ : S28)])])) else (none)) else (none))
def partitalaw16_File.l1 : Nat → Int → List (S28) → Int → Int → Int → List (List (S28)) → Int → Int → List (List (S28)) → Option (Int × Int × (List (List (S28))))
  | 0, _, _, _, _, _, _, _, _, _ => none
  | k + 1, x4, x5, x6, x102000, x102001, x102002, x106000, x106001, x106002 => if 0 ≤ x4 then (if x4 < (x102002.length : Int) then (if x6 < ((rd_L3 x102002 x4).length : Int) then (if x6 < 12 then (if 0 ≤ x6 then ((partitalaw16_Message.f ((rd_T28 (rd_L3 x102002 x4) x6).f0) ((rd_T28 (rd_L3 x102002 x4) x6).f1) ((rd_T28 (rd_L3 x102002 x4) x6).f2) ((rd_T28 (rd_L3 x102002 x4) x6).f3) ((rd_T28 (rd_L3 x102002 x4) x6).f4) ((rd_T28 (rd_L3 x102002 x4) x6).f5)).bind fun bt109 => (if x5.length < 2513169434916 then (partitalaw16_File.l1 k x4 (x5 ++ [(⟨bt109.1, bt109.2.1, bt109.2.2.1, bt109.2.2.2.1, bt109.2.2.2.2.1, bt109.2.2.2.2.2⟩ : S28)]) (wrap64 (x6 + 1)) x102000 x102001 x102002 x106000 x106001 x106002) else (none))) else (none)) else (partitalaw16_File.j3 k x4 x5 x102000 x102001 x102002 x106000 x106001 x106002)) else (partitalaw16_File.j3 k x4 x5 x102000 x102001 x102002 x106000 x106001 x106002)) else (none)) else (none)
end
def partitalaw16_File.f (k : Nat) (a0_0 : Int) (a0_1 : Int) (l0_2 : List (List (S28))) : Option (Int × Int × (List (List (S28)))) := (partitalaw16_pick.f a0_0 2).bind fun t103 => ((partitalaw16_pick.f a0_1 32767).bind fun t104 => (partitalaw16_File.l0 k 0 a0_0 a0_1 l0_2 t103 (wrap64 (1 + t104)) ([] : List (List (S28)))))
theorem partitalaw16_File.mono_l : ∀ k, (∀ y0 y1 y2 y3 y4 y5 y6, LeO (partitalaw16_File.l0 k y0 y1 y2 y3 y4 y5 y6) (partitalaw16_File.l0 (k + 1) y0 y1 y2 y3 y4 y5 y6)) ∧ (∀ y0 y1 y2 y3 y4 y5 y6 y7, LeO (partitalaw16_File.j1 k y0 y1 y2 y3 y4 y5 y6 y7) (partitalaw16_File.j1 (k + 1) y0 y1 y2 y3 y4 y5 y6 y7)) ∧ (∀ y0 y1 y2 y3 y4 y5 y6 y7, LeO (partitalaw16_File.j3 k y0 y1 y2 y3 y4 y5 y6 y7) (partitalaw16_File.j3 (k + 1) y0 y1 y2 y3 y4 y5 y6 y7)) ∧ (∀ y0 y1 y2 y3 y4 y5 y6 y7 y8, LeO (partitalaw16_File.l1 k y0 y1 y2 y3 y4 y5 y6 y7 y8) (partitalaw16_File.l1 (k + 1) y0 y1 y2 y3 y4 y5 y6 y7 y8))
  | 0 => ⟨fun _ _ _ _ _ _ _ r h => by simp [partitalaw16_File.l0] at h, fun _ _ _ _ _ _ _ _ r h => by simp [partitalaw16_File.j1] at h, fun _ _ _ _ _ _ _ _ r h => by simp [partitalaw16_File.j3] at h, fun _ _ _ _ _ _ _ _ _ r h => by simp [partitalaw16_File.l1] at h⟩
  | k + 1 => by
    obtain ⟨ih0, ih1, ih2, ih3⟩ := partitalaw16_File.mono_l k
    refine ⟨?_, ?_, ?_, ?_⟩
    · intro y0 y1 y2 y3 y4 y5 y6
      unfold partitalaw16_File.l0
      repeat' first
      | (with_reducible exact ih0 _ _ _ _ _ _ _)
      | (with_reducible exact ih1 _ _ _ _ _ _ _ _)
      | (with_reducible exact ih2 _ _ _ _ _ _ _ _)
      | (with_reducible exact ih3 _ _ _ _ _ _ _ _ _)
      | (with_reducible exact LeO.refl _)
      | (with_reducible exact LeO.none _)
      | (with_reducible refine LeO.ite ?_ ?_)
      | (with_reducible refine LeO.bind ?_ (fun _ => ?_))
      | exact ih0 _ _ _ _ _ _ _
      | exact ih1 _ _ _ _ _ _ _ _
      | exact ih2 _ _ _ _ _ _ _ _
      | exact ih3 _ _ _ _ _ _ _ _ _
      | exact LeO.none _
      | refine LeO.ite ?_ ?_
      | refine LeO.bind ?_ (fun _ => ?_)
    · intro y0 y1 y2 y3 y4 y5 y6 y7
      unfold partitalaw16_File.j1
      repeat' first
      | (with_reducible exact ih0 _ _ _ _ _ _ _)
      | (with_reducible exact ih1 _ _ _ _ _ _ _ _)
      | (with_reducible exact ih2 _ _ _ _ _ _ _ _)
      | (with_reducible exact ih3 _ _ _ _ _ _ _ _ _)
      | (with_reducible exact LeO.refl _)
      | (with_reducible exact LeO.none _)
      | (with_reducible refine LeO.ite ?_ ?_)
      | (with_reducible refine LeO.bind ?_ (fun _ => ?_))
      | exact ih0 _ _ _ _ _ _ _
      | exact ih1 _ _ _ _ _ _ _ _
      | exact ih2 _ _ _ _ _ _ _ _
      | exact ih3 _ _ _ _ _ _ _ _ _
      | exact LeO.none _
      | refine LeO.ite ?_ ?_
      | refine LeO.bind ?_ (fun _ => ?_)
    · intro y0 y1 y2 y3 y4 y5 y6 y7
      unfold partitalaw16_File.j3
      repeat' first
      | (with_reducible exact ih0 _ _ _ _ _ _ _)
      | (with_reducible exact ih1 _ _ _ _ _ _ _ _)
      | (with_reducible exact ih2 _ _ _ _ _ _ _ _)
      | (with_reducible exact ih3 _ _ _ _ _ _ _ _ _)
      | (with_reducible exact LeO.refl _)
      | (with_reducible exact LeO.none _)
      | (with_reducible refine LeO.ite ?_ ?_)
      | (with_reducible refine LeO.bind ?_ (fun _ => ?_))
      | exact ih0 _ _ _ _ _ _ _
      | exact ih1 _ _ _ _ _ _ _ _
      | exact ih2 _ _ _ _ _ _ _ _
      | exact ih3 _ _ _ _ _ _ _ _ _
      | exact LeO.none _
      | refine LeO.ite ?_ ?_
      | refine LeO.bind ?_ (fun _ => ?_)
    · intro y0 y1 y2 y3 y4 y5 y6 y7 y8
      unfold partitalaw16_File.l1
      repeat' first
      | (with_reducible exact ih0 _ _ _ _ _ _ _)
      | (with_reducible exact ih1 _ _ _ _ _ _ _ _)
      | (with_reducible exact ih2 _ _ _ _ _ _ _ _)
      | (with_reducible exact ih3 _ _ _ _ _ _ _ _ _)
      | (with_reducible exact LeO.refl _)
      | (with_reducible exact LeO.none _)
      | (with_reducible refine LeO.ite ?_ ?_)
      | (with_reducible refine LeO.bind ?_ (fun _ => ?_))
      | exact ih0 _ _ _ _ _ _ _
      | exact ih1 _ _ _ _ _ _ _ _
      | exact ih2 _ _ _ _ _ _ _ _
      | exact ih3 _ _ _ _ _ _ _ _ _
      | exact LeO.none _
      | refine LeO.ite ?_ ?_
      | refine LeO.bind ?_ (fun _ => ?_)
theorem partitalaw16_File.mono : ∀ a0 a1 a2 k, LeO (partitalaw16_File.f k a0 a1 a2) (partitalaw16_File.f (k + 1) a0 a1 a2) := by
  intro a0 a1 a2 k
  obtain ⟨ih0, ih1, ih2, ih3⟩ := partitalaw16_File.mono_l k
  unfold partitalaw16_File.f
  repeat' first
      | (with_reducible exact ih0 _ _ _ _ _ _ _)
      | (with_reducible exact ih1 _ _ _ _ _ _ _ _)
      | (with_reducible exact ih2 _ _ _ _ _ _ _ _)
      | (with_reducible exact ih3 _ _ _ _ _ _ _ _ _)
      | (with_reducible exact LeO.refl _)
      | (with_reducible exact LeO.none _)
      | (with_reducible refine LeO.ite ?_ ?_)
      | (with_reducible refine LeO.bind ?_ (fun _ => ?_))
      | exact ih0 _ _ _ _ _ _ _
      | exact ih1 _ _ _ _ _ _ _ _
      | exact ih2 _ _ _ _ _ _ _ _
      | exact ih3 _ _ _ _ _ _ _ _ _
      | exact LeO.none _
      | refine LeO.ite ?_ ?_
      | refine LeO.bind ?_ (fun _ => ?_)
def partitalaw16_File.T1 : Bool × List (List Nat × List Nat) := (true, [([], []), ([0], [0]), ([1], [1]), ([], []), ([3], [3]), ([4, 2], [4]), ([5], [5]), ([2, 6], [2, 6]), ([], []), ([8, 7, 5, 0, 1, 2, 3, 4, 5, 6, 7, 8], [7, 8])])
def partitalaw16_File.B1 : List Nat := [0, 1, 3, 0, 8, 31, 63, 127, 0, 511]
theorem partitalaw16_File.tab1 : rtab .any (opsOf Try.f12 1) = partitalaw16_File.T1 := by kernel_rfl
theorem partitalaw16_File.bits1 : waitsOk partitalaw16_File.T1.2 partitalaw16_File.B1 = true := by kernel_rfl
def partitalaw16_File.T10 : Bool × List (List Nat × List Nat) := (true, [([], []), ([0], [0]), ([], []), ([], []), ([3], [3]), ([4], [4]), ([5], [5]), ([2, 6, 5], [2, 6]), ([7], [7]), ([1, 8, 7], [1, 8]), ([0, 1, 2, 3, 4, 5, 6, 7, 8, 9], []), ([10, 9, 9, 0, 1, 2, 3, 4, 5, 6, 7, 8, 9], [9, 10])])
def partitalaw16_File.B10 : List Nat := [0, 1, 0, 0, 8, 24, 56, 124, 252, 511, 1023, 2047]
theorem partitalaw16_File.tab10 : rtab .any (opsOf Try.f12 10) = partitalaw16_File.T10 := by kernel_rfl
theorem partitalaw16_File.bits10 : waitsOk partitalaw16_File.T10.2 partitalaw16_File.B10 = true := by kernel_rfl
set_option maxHeartbeats 8000000 in
set_option maxRecDepth 100000 in
theorem partitalaw16_File.calls (k : Nat) (a0_0 : Int) (a0_1 : Int) (A0_2 : Option Addr) (c0_2 : Nat) (l0_2 : List (List (S28))) (r1 : Int) (r2 : Int) (r3 : List (List (S28))) (w : World) (hr0_2 : Kd.C (Kd.slice 28 k28) w A0_2 l0_2.length l0_2) (hc0_2 : l0_2.length ≤ c0_2) (h : partitalaw16_File.f k a0_0 a0_1 l0_2 = some (r1, r2, r3)) :
    Calls Try.prog 12 #[.agg #[.int .i64 a0_0, .int .i64 a0_1, .slice A0_2 l0_2.length c0_2]] w fun e w' => ∃ v2_ : Value, e = .returned (.agg #[.int .i64 r1, .int .i64 r2, v2_]) ∧ Kd.N (Kd.slice 28 k28) 30 w' w.heap.size (fun k_ => (w.heap.size ≤ k_)) v2_ r3 ∧ Below w.heap.size w w' := by
  have hu24 := Try.underlying24
  have hu28 := Try.underlying28
  have HR0_2 := Aside0.mk hr0_2
  have HC0_2 := Aside0.mk hc0_2
  clear hr0_2 hc0_2
  have HB := Aside0.mk (Below.refl w.heap.size w)
  have H := h
  unfold partitalaw16_File.f at H
  clear h
  replace H := Option.bind_eq_some_iff.mp H
  obtain ⟨t103, A20, H⟩ := H
  try dsimp -simprocs only at H
  have A2 := Aside0.mk A20
  clear A20
  replace H := Option.bind_eq_some_iff.mp H
  obtain ⟨t104, A30, H⟩ := H
  try dsimp -simprocs only at H
  have A3 := Aside0.mk A30
  clear A30
  have H' := Aside0.mk H
  clear H
  go_enter Try.func12, Try.ntmps12
  try go_wp2_with (first | ((with_reducible refine gate_dst (N := 1) rfl ?_); refine box_event ?hg (N := 1) ?hd (cs := #[.int .i64 a0_0, .int .i64 a0_1, .slice A0_2 l0_2.length c0_2]) (t := 24) ?hr ?_; (case hd => rfl); (case hg => rfl); (case hr => exact qq6); intro gb101 hg w4 hbox hb; have BK101 := Aside0.mk (hbox); have GW101 := Aside0.mk ((qq9 : w.heap.size ≤ gb101)); have GE101 := Aside0.mk ((qq9 : w.heap.size ≤ gb101)); replace HB := Aside0.mk (below_step (qB HB.out) hb); clear hb hbox hg) | ((with_reducible refine gate_dst (N := 2) rfl ?_); refine box_event ?hg (N := 2) ?hd (cs := #[.int .i64 0, .int .i64 0, .slice none 0 0]) (t := 24) ?hr ?_; (case hd => rfl); (case hg => rfl); (case hr => exact qq6); intro gb102 hg w5 hbox hb; have BK102 := Aside0.mk (hbox); have GW102 := Aside0.mk ((qqh : w.heap.size ≤ gb102)); have GE102 := Aside0.mk ((qqh : w.heap.size ≤ gb102)); replace HB := Aside0.mk (below_step (qS1 GE101 HB.out) hb); have NB101_102 := Aside0.mk ((qqb : gb101 ≠ gb102)); have NB102_101 := Aside0.mk ((qqc : gb102 ≠ gb101)); replace BK101 := Aside0.mk (blk_below (bq BK101.out) hb); clear hb hbox hg))
  replace BK101 := Aside0.mk (blk_drew BK101.out)
  replace BK102 := Aside0.mk (blk_drew BK102.out)
  replace HB := Aside0.mk (below_drew1 HB.out)
  refine start_ (n := 10) (S := fun w' => w'.cell? ⟨gb101, 0, none⟩ = some (.int .i64 a0_0) ∧ w'.cell? ⟨gb101, 1, none⟩ = some (.int .i64 a0_1) ∧ w'.cell? ⟨gb101, 2, none⟩ = some (.slice A0_2 l0_2.length c0_2)) (ds := []) #[false, false, false, false, false, false, false, false, false, false] (by kernel_rfl) rfl rfl ⟨(blk_cell BK101.out 0).trans rfl, (blk_cell BK101.out 1).trans rfl, (blk_cell BK101.out 2).trans rfl⟩ (fun hHeld => ?_); refine with_tabW partitalaw16_File.tab1 partitalaw16_File.bits1 (fun HT_ HW_ => ?_)
  generalize w5.drew = w6 at BK101 BK102 HB hHeld ⊢
  refine pureS 0 (some 7) (bs 1 10) ?_
  refine pureS 3 (some 10) (bs 9 10) ?_
  refine take_ (i := 1) (N := some 8) (v := ?_) (a' := ?_) (bs 11 10) rfl rfl (take_ofW HT_.out HW_.out (by kernel_rfl)) (fun _ _ _ h => h) (Or.inl ⟨by rfl, ?_⟩) hHeld ?_ ?_
  rotate_left
  · rintro w' ⟨s0, s1, s2⟩
    go_simp
    with_reducible rfl
  rotate_left
  · simp only [Act.put, List.setIfInBounds_toArray, List.set_cons_zero, List.set_cons_succ, i64_w, i32_w]
    rfl
  refine take_ (i := 4) (N := some 11) (v := ?_) (a' := ?_) (bs 27 10) rfl rfl (take_ofW HT_.out HW_.out (by kernel_rfl)) (fun _ _ _ h => h) (Or.inl ⟨by rfl, ?_⟩) hHeld ?_ ?_
  rotate_left
  · rintro w' ⟨s0, s1, s2⟩
    go_simp
    with_reducible rfl
  rotate_left
  · simp only [Act.put, List.setIfInBounds_toArray, List.set_cons_zero, List.set_cons_succ, i64_w, i32_w]
    rfl
  refine join_ (σ := Nat) 1 (bs 511 10) (fun s_ => [(9, .int .i64 t103), (12, .int .i64 t104), (3, .pointer (some ⟨s_, 0, none⟩)), (13, .int .i64 (wrap64 (1 + t104))), (14, .agg #[.int .i64 t103, .int .i64 (wrap64 (1 + t104)), .slice none 0 0])]) (fun s_ w' => (w'.cell? ⟨gb101, 0, none⟩ = some (.int .i64 a0_0) ∧ w'.cell? ⟨gb101, 1, none⟩ = some (.int .i64 a0_1) ∧ w'.cell? ⟨gb101, 2, none⟩ = some (.slice A0_2 l0_2.length c0_2)) ∧ (w'.heap[gb101]? = some (.cells #[.int .i64 a0_0, .int .i64 a0_1, .slice A0_2 l0_2.length c0_2] 24 (0, 0))) ∧ (w'.heap[gb102]? = some (.cells #[.int .i64 0, .int .i64 0, .slice none 0 0] 24 (0, 0))) ∧ (w'.heap[s_]? = some (.cells #[.int .i64 0, .int .i64 0, .slice none 0 0] 24 (0, 0))) ∧ (w.heap.size ≤ s_) ∧ (w.heap.size ≤ s_) ∧ (gb101 ≠ s_) ∧ (s_ ≠ gb101) ∧ (gb102 ≠ s_) ∧ (s_ ≠ gb102) ∧ (Below w.heap.size w w')) ?_ ?_
  rotate_left
  · intro hCont
    refine two_ (i := 2) (j := 8) (Ni := some 9) (Nj := some 3) (bs 31 10) (bs 283 10) rfl rfl rfl rfl (two_of HT_.out (by kernel_rfl)) (by decide) (by decide) (fun K hK => ?_) (fun K hK => ?_)
    rotate_left
    · skip
      refine box_step ?hg (N := 3) ?hd (cs := #[.int .i64 0, .int .i64 0, .slice none 0 0]) (t := 24) ?hr ?_; (case hd => rfl); (case hg => rfl); (case hr => exact qq6)
      intro gb105 hg w7 hbox hb
      have BK105 := Aside0.mk (hbox)
      have GW105 := Aside0.mk ((qqe : w.heap.size ≤ gb105))
      have GE105 := Aside0.mk ((qqe : w.heap.size ≤ gb105))
      replace HB := Aside0.mk (below_step (qS2 GE101 GE102 HB.out) hb)
      have NB101_105 := Aside0.mk ((qqb : gb101 ≠ gb105))
      have NB105_101 := Aside0.mk ((qqc : gb105 ≠ gb101))
      replace BK101 := Aside0.mk (blk_below (bq BK101.out) hb)
      have NB102_105 := Aside0.mk ((qqk : gb102 ≠ gb105))
      have NB105_102 := Aside0.mk ((qql : gb105 ≠ gb102))
      replace BK102 := Aside0.mk (blk_below (bq BK102.out) hb)
      clear hb hbox hg
      refine hK.out _ _ ⟨(blk_cell BK101.out 0).trans rfl, (blk_cell BK101.out 1).trans rfl, (blk_cell BK101.out 2).trans rfl⟩ (fun hHeld => ?_)
      clear hK K
      refine normS (some 3) ?_
      refine one_ (i := 2) (N := some 9) (bs 287 10) rfl rfl (one_of HT_.out (by kernel_rfl)) (by decide) (fun K hK => ?_)
      refine goes_ Try.func19 (by kernel_rfl) rfl #[.int .i64 a0_0, .int .i64 2] (by rfl) rfl rfl qq0 ?_
      with_reducible refine (partitalaw16_pick.calls a0_0 2 t103 _ A2.out).mono ?_
      rintro e w' ⟨rfl, ⟨nd, rfl⟩⟩
      refine ⟨_, rfl, ?_⟩
      refine hK.out _ _ ⟨(blk_cell BK101.out 0).trans rfl, (blk_cell BK101.out 1).trans rfl, (blk_cell BK101.out 2).trans rfl⟩ (fun hHeld => ?_)
      clear hK K
      refine normS (some 9) ?_
      refine one_ (i := 5) (N := some 12) (bs 319 10) rfl rfl (one_of HT_.out (by kernel_rfl)) (by decide) (fun K hK => ?_)
      refine goes_ Try.func19 (by kernel_rfl) rfl #[.int .i64 a0_1, .int .i64 32767] (by rfl) rfl rfl qq0 ?_
      with_reducible refine (partitalaw16_pick.calls a0_1 32767 t104 _ A3.out).mono ?_
      rintro e w' ⟨rfl, ⟨nd, rfl⟩⟩
      refine ⟨_, rfl, ?_⟩
      refine hK.out _ _ ⟨(blk_cell BK101.out 0).trans rfl, (blk_cell BK101.out 1).trans rfl, (blk_cell BK101.out 2).trans rfl⟩ (fun hHeld => ?_)
      clear hK K
      refine normS (some 12) ?_
      refine pureS 6 (some 13) (bs 383 10) ?_
      refine pureS 7 (some 14) (bs 511 10) ?_
      exact norm_ qq1 (hCont (gb105) _ ⟨hHeld, (bq BK101.out), (bq BK102.out), (bq BK105.out), GW105.out, GE105.out, NB101_105.out, NB105_101.out, NB102_105.out, NB105_102.out, (qS3 GE101 GE102 GE105 HB.out)⟩)
    skip
    refine goes_ Try.func19 (by kernel_rfl) rfl #[.int .i64 a0_0, .int .i64 2] (by rfl) rfl rfl qq0 ?_
    with_reducible refine (partitalaw16_pick.calls a0_0 2 t103 _ A2.out).mono ?_
    rintro e w' ⟨rfl, ⟨nd, rfl⟩⟩
    refine ⟨_, rfl, ?_⟩
    refine hK.out _ _ ⟨(blk_cell BK101.out 0).trans rfl, (blk_cell BK101.out 1).trans rfl, (blk_cell BK101.out 2).trans rfl⟩ (fun hHeld => ?_)
    clear hK K
    refine normS (some 9) ?_
    refine two_ (i := 5) (j := 8) (Ni := some 12) (Nj := some 3) (bs 63 10) (bs 287 10) rfl rfl rfl rfl (two_of HT_.out (by kernel_rfl)) (by decide) (by decide) (fun K hK => ?_) (fun K hK => ?_)
    · skip
      refine goes_ Try.func19 (by kernel_rfl) rfl #[.int .i64 a0_1, .int .i64 32767] (by rfl) rfl rfl qq0 ?_
      with_reducible refine (partitalaw16_pick.calls a0_1 32767 t104 _ A3.out).mono ?_
      rintro e w' ⟨rfl, ⟨nd, rfl⟩⟩
      refine ⟨_, rfl, ?_⟩
      refine hK.out _ _ ⟨(blk_cell BK101.out 0).trans rfl, (blk_cell BK101.out 1).trans rfl, (blk_cell BK101.out 2).trans rfl⟩ (fun hHeld => ?_)
      clear hK K
      refine normS (some 12) ?_
      refine pureS 6 (some 13) (bs 127 10) ?_
      refine pureS 7 (some 14) (bs 255 10) ?_
      refine one_ (i := 8) (N := some 3) (bs 511 10) rfl rfl (one_of HT_.out (by kernel_rfl)) (by decide) (fun K hK => ?_)
      refine box_step ?hg (N := 3) ?hd (cs := #[.int .i64 0, .int .i64 0, .slice none 0 0]) (t := 24) ?hr ?_; (case hd => rfl); (case hg => rfl); (case hr => exact qq6)
      intro gb105 hg w7 hbox hb
      have BK105 := Aside0.mk (hbox)
      have GW105 := Aside0.mk ((qqe : w.heap.size ≤ gb105))
      have GE105 := Aside0.mk ((qqe : w.heap.size ≤ gb105))
      replace HB := Aside0.mk (below_step (qS2 GE101 GE102 HB.out) hb)
      have NB101_105 := Aside0.mk ((qqb : gb101 ≠ gb105))
      have NB105_101 := Aside0.mk ((qqc : gb105 ≠ gb101))
      replace BK101 := Aside0.mk (blk_below (bq BK101.out) hb)
      have NB102_105 := Aside0.mk ((qqk : gb102 ≠ gb105))
      have NB105_102 := Aside0.mk ((qql : gb105 ≠ gb102))
      replace BK102 := Aside0.mk (blk_below (bq BK102.out) hb)
      clear hb hbox hg
      refine hK.out _ _ ⟨(blk_cell BK101.out 0).trans rfl, (blk_cell BK101.out 1).trans rfl, (blk_cell BK101.out 2).trans rfl⟩ (fun hHeld => ?_)
      clear hK K
      refine normS (some 3) ?_
      exact norm_ qq1 (hCont (gb105) _ ⟨hHeld, (bq BK101.out), (bq BK102.out), (bq BK105.out), GW105.out, GE105.out, NB101_105.out, NB105_101.out, NB102_105.out, NB105_102.out, (qS3 GE101 GE102 GE105 HB.out)⟩)
    skip
    refine box_step ?hg (N := 3) ?hd (cs := #[.int .i64 0, .int .i64 0, .slice none 0 0]) (t := 24) ?hr ?_; (case hd => rfl); (case hg => rfl); (case hr => exact qq6)
    intro gb105 hg w7 hbox hb
    have BK105 := Aside0.mk (hbox)
    have GW105 := Aside0.mk ((qqe : w.heap.size ≤ gb105))
    have GE105 := Aside0.mk ((qqe : w.heap.size ≤ gb105))
    replace HB := Aside0.mk (below_step (qS2 GE101 GE102 HB.out) hb)
    have NB101_105 := Aside0.mk ((qqb : gb101 ≠ gb105))
    have NB105_101 := Aside0.mk ((qqc : gb105 ≠ gb101))
    replace BK101 := Aside0.mk (blk_below (bq BK101.out) hb)
    have NB102_105 := Aside0.mk ((qqk : gb102 ≠ gb105))
    have NB105_102 := Aside0.mk ((qql : gb105 ≠ gb102))
    replace BK102 := Aside0.mk (blk_below (bq BK102.out) hb)
    clear hb hbox hg
    refine hK.out _ _ ⟨(blk_cell BK101.out 0).trans rfl, (blk_cell BK101.out 1).trans rfl, (blk_cell BK101.out 2).trans rfl⟩ (fun hHeld => ?_)
    clear hK K
    refine normS (some 3) ?_
    refine one_ (i := 5) (N := some 12) (bs 319 10) rfl rfl (one_of HT_.out (by kernel_rfl)) (by decide) (fun K hK => ?_)
    refine goes_ Try.func19 (by kernel_rfl) rfl #[.int .i64 a0_1, .int .i64 32767] (by rfl) rfl rfl qq0 ?_
    with_reducible refine (partitalaw16_pick.calls a0_1 32767 t104 _ A3.out).mono ?_
    rintro e w' ⟨rfl, ⟨nd, rfl⟩⟩
    refine ⟨_, rfl, ?_⟩
    refine hK.out _ _ ⟨(blk_cell BK101.out 0).trans rfl, (blk_cell BK101.out 1).trans rfl, (blk_cell BK101.out 2).trans rfl⟩ (fun hHeld => ?_)
    clear hK K
    refine normS (some 12) ?_
    refine pureS 6 (some 13) (bs 383 10) ?_
    refine pureS 7 (some 14) (bs 511 10) ?_
    exact norm_ qq1 (hCont (gb105) _ ⟨hHeld, (bq BK101.out), (bq BK102.out), (bq BK105.out), GW105.out, GE105.out, NB101_105.out, NB105_101.out, NB102_105.out, NB105_102.out, (qS3 GE101 GE102 GE105 HB.out)⟩)
  rintro gb105 w8 ⟨hS_, h0_, h1_, h2_, h3_, h4_, h5_, h6_, h7_, h8_, h9_⟩
  have n0_ : Aside0 (w8.heap[gb101]? = some (.cells #[.int .i64 a0_0, .int .i64 a0_1, .slice A0_2 l0_2.length c0_2] 24 (0, 0))) := ⟨h0_⟩
  have n1_ : Aside0 (w8.heap[gb102]? = some (.cells #[.int .i64 0, .int .i64 0, .slice none 0 0] 24 (0, 0))) := ⟨h1_⟩
  have n2_ : Aside0 (w8.heap[gb105]? = some (.cells #[.int .i64 0, .int .i64 0, .slice none 0 0] 24 (0, 0))) := ⟨h2_⟩
  have n3_ : Aside0 (w.heap.size ≤ gb105) := ⟨h3_⟩
  have n4_ : Aside0 (w.heap.size ≤ gb105) := ⟨h4_⟩
  have n5_ : Aside0 (gb101 ≠ gb105) := ⟨h5_⟩
  have n6_ : Aside0 (gb105 ≠ gb101) := ⟨h6_⟩
  have n7_ : Aside0 (gb102 ≠ gb105) := ⟨h7_⟩
  have n8_ : Aside0 (gb105 ≠ gb102) := ⟨h8_⟩
  have n9_ : Aside0 (Below w.heap.size w w8) := ⟨h9_⟩
  clear BK101
  clear BK102
  clear HB
  clear h0_ h1_ h2_ h3_ h4_ h5_ h6_ h7_ h8_ h9_
  have BK101 := n0_
  have BK102 := n1_
  have BK105 := n2_
  have GW105 := n3_
  have GE105 := n4_
  have NB101_105 := n5_
  have NB105_101 := n6_
  have NB102_105 := n7_
  have NB105_102 := n8_
  have HB := n9_
  clear n0_ n1_ n2_ n3_ n4_ n5_ n6_ n7_ n8_ n9_
  have hHeld : w8.cell? ⟨gb101, 0, none⟩ = some (.int .i64 a0_0) ∧ w8.cell? ⟨gb101, 1, none⟩ = some (.int .i64 a0_1) ∧ w8.cell? ⟨gb101, 2, none⟩ = some (.slice A0_2 l0_2.length c0_2) := hS_
  refine norm_ (a' := ?_) ?_ ?_
  rotate_left
  · simp only [putAll, Act.put, List.setIfInBounds_toArray, List.set_cons_zero, List.set_cons_succ]
    rfl
  refine one_ (i := 9) (N := none) (bs 1023 10) rfl rfl (one_of HT_.out (by kernel_rfl)) (by decide) (fun K hK => ?_)
  have hs9 : w8.cell? ⟨gb105, 0, none⟩ = some (.int .i64 0) := (blk_cell BK105.out 0).trans rfl
  have hfs9 := blk_frozen BK105.out 0
  have hns9_0 := NB101_105.out
  have hns9_1 := NB102_105.out
  have hms9_0 := NB105_101.out
  have hms9_1 := NB105_102.out
  have hs10 : w8.cell? ⟨gb105, 1, none⟩ = some (.int .i64 0) := (blk_cell BK105.out 1).trans rfl
  have hfs10 := blk_frozen BK105.out 1
  have hns10_0 := NB101_105.out
  have hns10_1 := NB102_105.out
  have hms10_0 := NB105_101.out
  have hms10_1 := NB105_102.out
  have hs11 : w8.cell? ⟨gb105, 2, none⟩ = some (.slice none 0 0) := (blk_cell BK105.out 2).trans rfl
  have hfs11 := blk_frozen BK105.out 2
  have hns11_0 := NB101_105.out
  have hns11_1 := NB102_105.out
  have hms11_0 := NB105_101.out
  have hms11_1 := NB105_102.out
  refine skip_ (w1 := ?_) (by rfl) rfl ?_ ?_
  rotate_left
  · go_simp
    rfl
  refine hK.out _ _ ⟨((cell_far (p := ⟨gb105, _, none⟩) NB101_105.out _).trans (((cell_far (p := ⟨gb105, _, none⟩) NB101_105.out _).trans (((cell_far (p := ⟨gb105, _, none⟩) NB101_105.out _).trans (hHeld.1)))))), ((cell_far (p := ⟨gb105, _, none⟩) NB101_105.out _).trans (((cell_far (p := ⟨gb105, _, none⟩) NB101_105.out _).trans (((cell_far (p := ⟨gb105, _, none⟩) NB101_105.out _).trans (hHeld.2.1)))))), ((cell_far (p := ⟨gb105, _, none⟩) NB101_105.out _).trans (((cell_far (p := ⟨gb105, _, none⟩) NB101_105.out _).trans (((cell_far (p := ⟨gb105, _, none⟩) NB101_105.out _).trans (hHeld.2.2))))))⟩ (fun hHeld => ?_)
  clear hK K
  refine done_ (done_of HT_.out (by kernel_rfl)) ?_
  try go_wp2
  go_loopg [4] k (fun kq v4 w' => ∃ (x4_1 : Int) (x106002_1 : List (List (S28))) (u106002 : Value), v4 = .int .i64 x4_1 ∧ Aside0 (partitalaw16_File.l0 kq x4_1 a0_0 a0_1 l0_2 t103 (wrap64 (1 + t104)) x106002_1 = some (r1, r2, r3)) ∧ Aside0 (kq ≤ k) ∧ Aside0 (Kd.N (Kd.slice 28 k28) 30 w' w.heap.size (fun k_ => (w.heap.size ≤ k_) ∧ k_ ≠ gb101 ∧ k_ ≠ gb102 ∧ k_ ≠ gb105) u106002 x106002_1) ∧ Aside0 (w'.heap[gb101]? = some (.cells #[.int .i64 a0_0, .int .i64 a0_1, (.slice A0_2 l0_2.length c0_2)] 24 (0, 0))) ∧ Aside0 (w'.heap[gb102]? = some (.cells #[.int .i64 0, .int .i64 0, (.slice none 0 0)] 24 (0, 0))) ∧ Aside0 (w'.heap[gb105]? = some (.cells #[.int .i64 t103, .int .i64 (wrap64 (1 + t104)), u106002] 24 (0, 0))) ∧ Aside0 (Below w.heap.size w w'))
  case atStart => exact ⟨(0), (([] : List (List (S28)))), (.slice none 0 0), qq8, H', ⟨Nat.le_refl _⟩, ⟨by first | exact Kd.S_nil _ _ _ _ _ | exact Kd.N_nil _ _ _ _ _ | exact Kd.V_nil _ _ _ _ _ | exact Kd.Q_nil _ _ _ _ _ | exact Kd.R_nil _ _ _ _ _⟩, ⟨by (with_reducible repeat (first | refine blk_drewN ?_ _ | refine blk_drew ?_ | refine blk_alloc ?_ _)); refine blk_far ?_ NB101_105.out _; (with_reducible repeat (first | refine blk_drewN ?_ _ | refine blk_drew ?_ | refine blk_alloc ?_ _)); refine blk_far ?_ NB101_105.out _; (with_reducible repeat (first | refine blk_drewN ?_ _ | refine blk_drew ?_ | refine blk_alloc ?_ _)); refine blk_far ?_ NB101_105.out _; (with_reducible repeat (first | refine blk_drewN ?_ _ | refine blk_drew ?_ | refine blk_alloc ?_ _)); exact BK101.out⟩, ⟨by (with_reducible repeat (first | refine blk_drewN ?_ _ | refine blk_drew ?_ | refine blk_alloc ?_ _)); refine blk_far ?_ NB102_105.out _; (with_reducible repeat (first | refine blk_drewN ?_ _ | refine blk_drew ?_ | refine blk_alloc ?_ _)); refine blk_far ?_ NB102_105.out _; (with_reducible repeat (first | refine blk_drewN ?_ _ | refine blk_drew ?_ | refine blk_alloc ?_ _)); refine blk_far ?_ NB102_105.out _; (with_reducible repeat (first | refine blk_drewN ?_ _ | refine blk_drew ?_ | refine blk_alloc ?_ _)); exact BK102.out⟩, ⟨by (with_reducible repeat (first | refine blk_drewN ?_ _ | refine blk_drew ?_ | refine blk_alloc ?_ _)); refine blk_put (cs := #[.int .i64 t103, .int .i64 (wrap64 (1 + t104)), .slice none 0 0]) ?_ 2 _ rfl; (with_reducible repeat (first | refine blk_drewN ?_ _ | refine blk_drew ?_ | refine blk_alloc ?_ _)); refine blk_put (cs := #[.int .i64 t103, .int .i64 0, .slice none 0 0]) ?_ 1 _ rfl; (with_reducible repeat (first | refine blk_drewN ?_ _ | refine blk_drew ?_ | refine blk_alloc ?_ _)); refine blk_put (cs := #[.int .i64 0, .int .i64 0, .slice none 0 0]) ?_ 0 _ rfl; (with_reducible repeat (first | refine blk_drewN ?_ _ | refine blk_drew ?_ | refine blk_alloc ?_ _)); exact BK105.out⟩, ⟨qS3 GE101 GE102 GE105 HB.out⟩⟩
  case round =>
    clear H'
    try clear c1
    try clear p2
    try clear p6
    obtain ⟨x4_1, x106002_1, u106002, rfl, HA, HK1, HO_106002, BK101, BK102, BK105, HB⟩ := hrel
    cases gk with
    | zero => exact absurd HA.out (by simp [partitalaw16_File.l0])
    | succ k1 =>
      have H := HA.out
      clear HA
      simp only [partitalaw16_File.l0] at H
      have HC12 := Aside0.mk H
      clear H
      go_upto_region 3 with (fail)
      go_cut [32] (fun v32 wc => ∃ (kq : Nat) (x32_11 : Bool), v32 = .bool x32_11 ∧ Aside0 (partitalaw16_File.j1 kq x4_1 x32_11 a0_0 a0_1 l0_2 t103 (wrap64 (1 + t104)) x106002_1 = some (r1, r2, r3)) ∧ Aside0 (kq ≤ k1) ∧ Aside0 (Kd.N (Kd.slice 28 k28) 30 wc w.heap.size (fun k_ => (w.heap.size ≤ k_) ∧ k_ ≠ gb101 ∧ k_ ≠ gb102 ∧ k_ ≠ gb105) u106002 x106002_1) ∧ Aside0 (wc.heap[gb101]? = some (.cells #[.int .i64 a0_0, .int .i64 a0_1, (.slice A0_2 l0_2.length c0_2)] 24 (0, 0))) ∧ Aside0 (wc.heap[gb102]? = some (.cells #[.int .i64 0, .int .i64 0, (.slice none 0 0)] 24 (0, 0))) ∧ Aside0 (wc.heap[gb105]? = some (.cells #[.int .i64 t103, .int .i64 (wrap64 (1 + t104)), u106002] 24 (0, 0))) ∧ Aside0 (Below w.heap.size w wc))
      case first =>
        have H := HC12.out
        clear HC12
        by_cases c13 : x4_1 < (l0_2.length : Int)
        rotate_left
        · rw [if_neg c13] at H
          have c13b0 : decide (x4_1 < (l0_2.length : Int)) = false := decide_eq_false c13
          clear c13
          (first | rw [c13b0] | (simp only [i64_w, i32_w]; rw [c13b0]) | skip)
          have H' := Aside0.mk H
          clear H
          have hnb27 := NB101_102.out
          have hnc27 := NB102_101.out
          have hnb28 := NB101_105.out
          have hnc28 := NB105_101.out
          obtain ⟨hcz29_0, hcz29_1, hcz29_2, hfz29_0, hfz29_1, hfz29_2⟩ := blk3 BK101.out
          go_wp2
          go_meet
          case rel => exact ⟨_, (false), qq8, H', ⟨qq1m⟩, ⟨qN HO_106002.out⟩, ⟨bq BK101.out⟩, ⟨bq BK102.out⟩, ⟨bq BK105.out⟩, ⟨qS3 GE101 GE102 GE105 HB.out⟩⟩
        rw [if_pos c13] at H
        have c13b0 : decide (x4_1 < (l0_2.length : Int)) = true := decide_eq_true c13
        clear c13
        (first | rw [c13b0] | (simp only [i64_w, i32_w]; rw [c13b0]) | skip)
        by_cases c14 : x4_1 < 5
        rotate_left
        · rw [if_neg c14] at H
          have c14b0 : decide (x4_1 < 5) = false := decide_eq_false c14
          clear c14
          have H' := Aside0.mk H
          clear H
          have hnb24 := NB101_102.out
          have hnc24 := NB102_101.out
          have hnb25 := NB101_105.out
          have hnc25 := NB105_101.out
          obtain ⟨hcz26_0, hcz26_1, hcz26_2, hfz26_0, hfz26_1, hfz26_2⟩ := blk3 BK101.out
          go_wp2
          go_meet
          case rel => exact ⟨_, (false), qq8, H', ⟨qq1m⟩, ⟨qN HO_106002.out⟩, ⟨bq BK101.out⟩, ⟨bq BK102.out⟩, ⟨bq BK105.out⟩, ⟨qS3 GE101 GE102 GE105 HB.out⟩⟩
        rw [if_pos c14] at H
        have c14b0 : decide (x4_1 < 5) = true := decide_eq_true c14
        clear c14
        by_cases c15 : x4_1 < 1
        · rw [if_pos c15] at H
          have c15b0 : decide (x4_1 < 1) = true := decide_eq_true c15
          clear c15
          have H' := Aside0.mk H
          clear H
          have hnb16 := NB101_102.out
          have hnc16 := NB102_101.out
          have hnb17 := NB101_105.out
          have hnc17 := NB105_101.out
          obtain ⟨hcz18_0, hcz18_1, hcz18_2, hfz18_0, hfz18_1, hfz18_2⟩ := blk3 BK101.out
          go_wp2
          go_meet
          case rel => exact ⟨_, (true), qq8, H', ⟨qq1m⟩, ⟨qN HO_106002.out⟩, ⟨bq BK101.out⟩, ⟨bq BK102.out⟩, ⟨bq BK105.out⟩, ⟨qS3 GE101 GE102 GE105 HB.out⟩⟩
        rw [if_neg c15] at H
        have c15b0 : decide (x4_1 < 1) = false := decide_eq_false c15
        clear c15
        have H' := Aside0.mk H
        clear H
        have hnb19 := NB101_102.out
        have hnc19 := NB102_101.out
        have hnb20 := NB101_105.out
        have hnc20 := NB105_101.out
        obtain ⟨hcz21_0, hcz21_1, hcz21_2, hfz21_0, hfz21_1, hfz21_2⟩ := blk3 BK101.out
        have hnb22 := NB105_102.out
        have hnc22 := NB102_105.out
        obtain ⟨hcz23_0, hcz23_1, hcz23_2, hfz23_0, hfz23_1, hfz23_2⟩ := blk3 BK105.out
        go_wp2
        go_meet
        case rel => exact ⟨_, ((t103 == 1)), qq8, H', ⟨qq1m⟩, ⟨qN HO_106002.out⟩, ⟨bq BK101.out⟩, ⟨bq BK102.out⟩, ⟨bq BK105.out⟩, ⟨qS3 GE101 GE102 GE105 HB.out⟩⟩
      case rest =>
        clear HC12
        try clear c1
        try clear c2
        try clear p2
        try clear p6
        try clear c12
        try clear c13
        try clear c13b0
        try clear c14
        try clear c14b0
        try clear c15
        try clear c15b0
        try clear c16
        try clear c17
        try clear c19
        try clear c20
        try clear c22
        try clear c24
        try clear c25
        try clear c27
        try clear c28
        try clear hcz18_0
        try clear hcz18_1
        try clear hcz18_2
        try clear hcz21_0
        try clear hcz21_1
        try clear hcz21_2
        try clear hcz23_0
        try clear hcz23_1
        try clear hcz23_2
        try clear hcz26_0
        try clear hcz26_1
        try clear hcz26_2
        try clear hcz29_0
        try clear hcz29_1
        try clear hcz29_2
        try clear hfz18_0
        try clear hfz18_1
        try clear hfz18_2
        try clear hfz21_0
        try clear hfz21_1
        try clear hfz21_2
        try clear hfz23_0
        try clear hfz23_1
        try clear hfz23_2
        try clear hfz26_0
        try clear hfz26_1
        try clear hfz26_2
        try clear hfz29_0
        try clear hfz29_1
        try clear hfz29_2
        try clear p2
        try clear p6
        obtain ⟨kq, x32_11, rfl, HA, HJ11, HO_106002, BK101, BK102, BK105, HB⟩ := hcut
        cases kq with
        | zero => exact absurd HA.out (by simp [partitalaw16_File.j1])
        | succ kj11 =>
          have H := HA.out
          clear HA
          simp only [partitalaw16_File.j1] at H
          by_cases c30 : x32_11 = true
          rotate_left
          · replace c30 := Bool.eq_false_iff.mpr c30
            subst c30
            have H1 : (if (x106002_1.length : Int) = 0 then ((partitalaw16_End.f 0).bind fun bt130 => (some (t103, (wrap64 (1 + t104)), (([(([(⟨bt130.1, bt130.2.1, bt130.2.2.1, bt130.2.2.2.1, bt130.2.2.2.2.1, bt130.2.2.2.2.2⟩ : S28)] : List (S28)))] : List (List (S28))))))) else (some (t103, (wrap64 (1 + t104)), x106002_1))) = some (r1, r2, r3) := by rw [if_neg (show ¬ (false = true) by decide)] at H; exact H
            clear H
            have H := H1
            clear H1
            by_cases c61 : (x106002_1.length : Int) = 0
            rotate_left
            · rw [if_neg c61] at H
              have c61b0 : ((x106002_1.length : Int) == 0) = false := beq_eq_false_iff_ne.mpr c61
              have c61b1 : ((x106002_1.length : Int) != 0) = true := bne_iff_ne.mpr c61
              have c61b2 : ¬ (x106002_1 = []) := fun h_ => c61 (by rw [h_]; rfl)
              simp only [Option.some.injEq, Prod.mk.injEq] at H
              obtain ⟨rfl, rfl, rfl⟩ := H
              have hnb77 := NB105_101.out
              have hnc77 := NB101_105.out
              have hnb78 := NB105_102.out
              have hnc78 := NB102_105.out
              obtain ⟨hcz79_0, hcz79_1, hcz79_2, hfz79_0, hfz79_1, hfz79_2⟩ := blk3 BK105.out
              obtain ⟨Ao80, co80, eo80⟩ := Kd.N_slice HO_106002.out
              subst eo80
              have hnb81 := NB102_101.out
              have hnc81 := NB101_102.out
              obtain ⟨hcz82_0, hcz82_1, hcz82_2, hfz82_0, hfz82_1, hfz82_2⟩ := blk3 BK102.out
              go_wp2
              refine bodyPost_ret (results_cell_row rfl _ _ gb102 24 #[.int .i64 t103, .int .i64 (wrap64 (1 + t104)), .slice Ao80 x106002_1.length co80] (0, 0) _ rfl (by refine bq ?_; refine blk_put (cs := #[.int .i64 t103, .int .i64 (wrap64 (1 + t104)), .slice none 0 0]) ?_ 2 _ rfl; refine bq ?_; refine blk_put (cs := #[.int .i64 t103, .int .i64 0, .slice none 0 0]) ?_ 1 _ rfl; refine bq ?_; refine blk_put (cs := #[.int .i64 0, .int .i64 0, .slice none 0 0]) ?_ 0 _ rfl; exact bq BK102.out) Try.underlying24 rfl (by kernel_rfl)) rfl ?_
              exact ⟨_, qq5, by (with_reducible repeat (first | apply Kd.N_alloc | apply Kd.N_drewN | apply Kd.N_drew)); exact Kd.N_mono (Kd.N_far (p := ⟨gb102, 2, none⟩) (Kd.N_far (p := ⟨gb102, 1, none⟩) (Kd.N_far (p := ⟨gb102, 0, none⟩) (Kd.N_mono HO_106002.out (fun k_ hk => (⟨hk, hk.2.2.1⟩ : _ ∧ k_ ≠ gb102))) (fun _ hk => hk.2) (.int .i64 t103)) (fun _ hk => hk.2) (.int .i64 (wrap64 (1 + t104)))) (fun _ hk => hk.2) (.slice Ao80 x106002_1.length co80)) (fun _ hk => hk.1.1), qS3 GE101 GE102 GE105 HB.out⟩
            rw [if_pos c61] at H
            have c61b0 : ((x106002_1.length : Int) == 0) = true := beq_iff_eq.mpr c61
            have c61b1 : ((x106002_1.length : Int) != 0) = false := bne_eq_false_iff_eq.mpr c61
            clear c61
            replace H := Option.bind_eq_some_iff.mp H
            obtain ⟨⟨t130, t131, t132, t133, t134, t135⟩, A620, H⟩ := H
            try dsimp -simprocs only at H
            have A62 := Aside0.mk A620
            clear A620
            obtain ⟨y136, hy136⟩ : ∃ y_ : List (S28), y_ = (([(⟨t130, t131, t132, t133, t134, t135⟩ : S28)] : List (S28))) := ⟨_, rfl⟩
            replace H : (some (t103, (wrap64 (1 + t104)), (([y136] : List (List (S28)))))) = some (r1, r2, r3) := by first | (rw [hy136]; with_reducible exact H) | (have H2_ := (Option.bind_some _ _).symm.trans H; rw [hy136]; with_reducible exact H2_) | (have H2_ := (Option.bind_some _ _).symm.trans H; with_reducible exact H2_) | with_reducible exact H | (rw [hy136]; exact H) | exact H
            have Ny136 := Aside0.mk hy136
            clear hy136
            obtain ⟨y139, hy139⟩ : ∃ y_ : List (List (S28)), y_ = (([y136] : List (List (S28)))) := ⟨_, rfl⟩
            replace H : (some (t103, (wrap64 (1 + t104)), y139)) = some (r1, r2, r3) := by first | (rw [hy139]; with_reducible exact H) | (have H2_ := (Option.bind_some _ _).symm.trans H; rw [hy139]; with_reducible exact H2_) | (have H2_ := (Option.bind_some _ _).symm.trans H; with_reducible exact H2_) | with_reducible exact H | (rw [hy139]; exact H) | exact H
            have Ny139 := Aside0.mk hy139
            clear hy139
            simp only [Option.some.injEq, Prod.mk.injEq] at H
            obtain ⟨rfl, rfl, rfl⟩ := H
            have hnb63 := NB105_101.out
            have hnc63 := NB101_105.out
            have hnb64 := NB105_102.out
            have hnc64 := NB102_105.out
            obtain ⟨hcz65_0, hcz65_1, hcz65_2, hfz65_0, hfz65_1, hfz65_2⟩ := blk3 BK105.out
            obtain ⟨Ao66, co66, eo66⟩ := Kd.N_slice HO_106002.out
            subst eo66
            go_wp2_with (first | ((with_reducible refine gate_callee (f := 13) rfl ?_); refine goesL_ (some 76) rfl rfl Try.func13 (by kernel_rfl) rfl #[.int .i64 0] rfl qq0 ?_; (with_reducible refine (partitalaw16_End.calls 0 t130 t131 t132 t133 t134 t135 _ A62.out).mono ?_); rintro e w67 ⟨rfl, hb⟩; refine ⟨_, rfl, ?_⟩; replace HO_106002 := Aside0.mk (Kd.N_below (qN HO_106002.out) hb); replace BK101 := Aside0.mk (blk_below (bq BK101.out) hb); replace BK102 := Aside0.mk (blk_below (bq BK102.out) hb); replace BK105 := Aside0.mk (blk_below (bq BK105.out) hb); replace HB := Aside0.mk (below_step (qS3 GE101 GE102 GE105 HB.out) hb); (try clear hb); (try clear hb2); (try clear hk); (try clear hi)) | ((with_reducible refine gate_dst (N := 77) rfl ?_); refine Kd.R_lit k28 _ 28 ?hg (N := 77) ?hd (xs := ([(⟨t130, t131, t132, t133, t134, t135⟩ : S28)] : List (S28))) (inner := [.int .i64 t130, .int .i64 t131, .int .i64 t132, .int .i64 t133, .int .i64 t134, .string t135]) (ok := fun _ => True) (okp := fun _ => True) ?hr ?hp (fun _ hk => hk) trivial (Below.refl _ _) (Nat.le_refl _) (by simp) ?_; (case hd => rfl); (case hg => rfl); (case hr => exact qq6); (case hp => exact (Reps.c6 (show Kd.M k28 _ _ _ (⟨t130, t131, t132, t133, t134, t135⟩ : S28) [.int .i64 t130, .int .i64 t131, .int .i64 t132, .int .i64 t133, .int .i64 t134, .string t135] from (k28_mkM _ _ _ (⟨t130, t131, t132, t133, t134, t135⟩ : S28) )) (Reps.none _ _))); intro v137 w68 ho69 hb hg_ hnew_; clear hg_ hnew_; (first | rw [← Ny136.out] at ho69 | (simp only [Int.reduceToNat] at ho69; rw [← Ny136.out] at ho69)); replace HO_106002 := Aside0.mk (Kd.N_elder' (qN HO_106002.out) (Kd.R_base ho69) hb); have HO138 := Aside0.mk (Kd.R_lower (Kd.R_newM (M := fun k_ => (w.heap.size ≤ k_)) ho69 (below_size (qS3 GE101 GE102 GE105 HB.out)) (fun k_ h_ => h_)) (below_size (qS3 GE101 GE102 GE105 HB.out))); replace BK101 := Aside0.mk (blk_below (bq BK101.out) hb); replace BK102 := Aside0.mk (blk_below (bq BK102.out) hb); replace BK105 := Aside0.mk (blk_below (bq BK105.out) hb); replace HB := Aside0.mk (below_step (qS3 GE101 GE102 GE105 HB.out) hb); clear hb ho69; obtain ⟨Ao70, co70, eo70⟩ := Kd.R_slice HO138.out; subst eo70) | ((with_reducible refine gate_dst (N := 78) rfl ?_); refine Kd.N_lit (Kd.slice 28 k28) _ 30 ?hg (N' := 78) ?hd (xs := ([y136] : List (List (S28)))) (inner := [.slice Ao70 y136.length co70]) (ok := (fun k_ => (w.heap.size ≤ k_) ∧ some k_ ≠ (.slice Ao66 x106002_1.length co66 : Value).ownBlock ∧ k_ ≠ gb101 ∧ k_ ≠ gb102 ∧ k_ ≠ gb105)) (okp := (fun k_ => (w.heap.size ≤ k_) ∧ some k_ ≠ (.slice Ao66 x106002_1.length co66 : Value).ownBlock ∧ k_ ≠ gb101 ∧ k_ ≠ gb102 ∧ k_ ≠ gb105)) ?hr ?hp (fun _ hk => hk) ((show ∀ k_, w68.heap.size ≤ k_ → (fun k_ => (w.heap.size ≤ k_) ∧ some k_ ≠ (.slice Ao66 x106002_1.length co66 : Value).ownBlock ∧ k_ ≠ gb101 ∧ k_ ≠ gb102 ∧ k_ ≠ gb105) k_ from fun k_ hk => ⟨(Nat.le_trans (below_size (qS3 GE101 GE102 GE105 HB.out)) hk), Kd.fresh' (Kd.N_lt (qN HO_106002.out)) k_ hk, Kd.freshB (bq BK101.out) k_ hk, Kd.freshB (bq BK102.out) k_ hk, Kd.freshB (bq BK105.out) k_ hk⟩) _ (Nat.le_refl _)) (Below.refl _ _) (Nat.le_refl _) (by simp) ?_; (case hd => rfl); (case hg => rfl); (case hr => exact qq6); (case hp => exact (Reps.one (show Kd.FK (Kd.slice 28 k28) _ _ y136 [.slice Ao70 y136.length co70] from (Kd.FK_slice_mk (Kd.R_reads' (Kd.R_mono (ok' := (fun k_ => (w.heap.size ≤ k_) ∧ some k_ ≠ (.slice Ao66 x106002_1.length co66 : Value).ownBlock ∧ k_ ≠ gb101 ∧ k_ ≠ gb102 ∧ k_ ≠ gb105)) (Kd.R_types (Kd.R_types (Kd.R_types (Kd.R_apart' (HO138.out) (Kd.N_typed HO_106002.out) (by decide)) BK101.out (by decide)) BK102.out (by decide)) BK105.out (by decide)) (fun k_ hk => ⟨hk.1.1.1.1.1, ⟨hk.1.1.1.2, ⟨hk.1.1.2, ⟨hk.1.2, hk.2⟩⟩⟩⟩))).2.1 (Kd.R_F (Kd.R_mono (ok' := (fun k_ => (w.heap.size ≤ k_) ∧ some k_ ≠ (.slice Ao66 x106002_1.length co66 : Value).ownBlock ∧ k_ ≠ gb101 ∧ k_ ≠ gb102 ∧ k_ ≠ gb105)) (Kd.R_types (Kd.R_types (Kd.R_types (Kd.R_apart' (HO138.out) (Kd.N_typed HO_106002.out) (by decide)) BK101.out (by decide)) BK102.out (by decide)) BK105.out (by decide)) (fun k_ hk => ⟨hk.1.1.1.1.1, ⟨hk.1.1.1.2, ⟨hk.1.1.2, ⟨hk.1.2, hk.2⟩⟩⟩⟩))))) (Reps.none _ _))); intro v140 w71 ho72 hb hg_ hnew_; clear hg_ hnew_; (first | rw [← Ny139.out] at ho72 | (simp only [Int.reduceToNat] at ho72; rw [← Ny139.out] at ho72)); replace HO_106002 := Aside0.mk (Kd.N_elder' (qN HO_106002.out) (Kd.N_base ho72) hb); have HO141 := Aside0.mk (Kd.N_lower ho72 (below_size (qS3 GE101 GE102 GE105 HB.out))); replace BK101 := Aside0.mk (blk_below (bq BK101.out) hb); replace BK102 := Aside0.mk (blk_below (bq BK102.out) hb); replace BK105 := Aside0.mk (blk_below (bq BK105.out) hb); replace HB := Aside0.mk (below_step (qS3 GE101 GE102 GE105 HB.out) hb); clear HO138; clear hb ho72; obtain ⟨Ao73, co73, eo73⟩ := Kd.N_slice HO141.out; subst eo73; obtain ⟨hcz74_0, hcz74_1, hcz74_2, hfz74_0, hfz74_1, hfz74_2⟩ := blk3 BK105.out; have hnb75 := NB102_101.out; have hnc75 := NB101_102.out; obtain ⟨hcz76_0, hcz76_1, hcz76_2, hfz76_0, hfz76_1, hfz76_2⟩ := blk3 BK102.out))
            refine bodyPost_ret (results_cell_row rfl _ _ gb102 24 #[.int .i64 t103, .int .i64 (wrap64 (1 + t104)), .slice Ao73 y139.length co73] (0, 0) _ rfl (by refine bq ?_; refine blk_put (cs := #[.int .i64 t103, .int .i64 (wrap64 (1 + t104)), .slice none 0 0]) ?_ 2 _ rfl; refine bq ?_; refine blk_put (cs := #[.int .i64 t103, .int .i64 0, .slice none 0 0]) ?_ 1 _ rfl; refine bq ?_; refine blk_put (cs := #[.int .i64 0, .int .i64 0, .slice none 0 0]) ?_ 0 _ rfl; refine bq ?_; refine blk_far ?_ NB102_105.out _; exact bq BK102.out) Try.underlying24 rfl (by kernel_rfl)) rfl ?_
            exact ⟨_, qq5, by (with_reducible repeat (first | apply Kd.N_alloc | apply Kd.N_drewN | apply Kd.N_drew)); exact Kd.N_mono (Kd.N_far (p := ⟨gb102, 2, none⟩) (Kd.N_far (p := ⟨gb102, 1, none⟩) (Kd.N_far (p := ⟨gb102, 0, none⟩) (Kd.N_far (p := ⟨gb105, 2, none⟩) (Kd.N_mono (Kd.N_mono HO141.out (fun k_ hk => (⟨hk, hk.2.2.2.2⟩ : _ ∧ k_ ≠ gb105))) (fun k_ hk => (⟨hk, hk.1.2.2.2.1⟩ : _ ∧ k_ ≠ gb102))) (fun _ hk => hk.1.2) (.slice Ao73 y139.length co73)) (fun _ hk => hk.2) (.int .i64 t103)) (fun _ hk => hk.2) (.int .i64 (wrap64 (1 + t104)))) (fun _ hk => hk.2) (.slice Ao73 y139.length co73)) (fun _ hk => hk.1.1.1), qS3 GE101 GE102 GE105 HB.out⟩
          subst c30
          have H1 : (partitalaw16_File.l1 kj11 x4_1 ([] : List (S28)) 0 a0_0 a0_1 l0_2 t103 (wrap64 (1 + t104)) x106002_1) = some (r1, r2, r3) := by rw [if_pos rfl] at H; exact H
          clear H
          have H := H1
          clear H1
          have HC31 := Aside0.mk H
          clear H
          go_upto_block 2 with (fail)
          go_cut [5] (fun v5 wc => ∃ (kq : Nat) (x5_30 : List (S28)), Aside0 (partitalaw16_File.j3 kq x4_1 x5_30 a0_0 a0_1 l0_2 t103 (wrap64 (1 + t104)) x106002_1 = some (r1, r2, r3)) ∧ Aside0 (kq ≤ kj11) ∧ Aside0 (Kd.R k28 28 wc w.heap.size (fun k_ => (w.heap.size ≤ k_)) v5 x5_30) ∧ Aside0 (Kd.N (Kd.slice 28 k28) 30 wc w.heap.size (fun k_ => (w.heap.size ≤ k_) ∧ some k_ ≠ (v5 : Value).ownBlock ∧ k_ ≠ gb101 ∧ k_ ≠ gb102 ∧ k_ ≠ gb105) u106002 x106002_1) ∧ Aside0 (wc.heap[gb101]? = some (.cells #[.int .i64 a0_0, .int .i64 a0_1, (.slice A0_2 l0_2.length c0_2)] 24 (0, 0))) ∧ Aside0 (wc.heap[gb102]? = some (.cells #[.int .i64 0, .int .i64 0, (.slice none 0 0)] 24 (0, 0))) ∧ Aside0 (wc.heap[gb105]? = some (.cells #[.int .i64 t103, .int .i64 (wrap64 (1 + t104)), u106002] 24 (0, 0))) ∧ Aside0 (Below w.heap.size w wc))
          case first =>
            have H := HC31.out
            clear HC31
            have H' := Aside0.mk H
            clear H
            go_wp2
            go_loopg [5, 6] kj11 (fun kq v5 v6 w' => ∃ (x5_3 : List (S28)) (x6_3 : Int), v6 = .int .i64 x6_3 ∧ Aside0 (partitalaw16_File.l1 kq x4_1 x5_3 x6_3 a0_0 a0_1 l0_2 t103 (wrap64 (1 + t104)) x106002_1 = some (r1, r2, r3)) ∧ Aside0 (kq ≤ kj11) ∧ Aside0 (Kd.R k28 28 w' w.heap.size (fun k_ => (w.heap.size ≤ k_)) v5 x5_3) ∧ Aside0 (Kd.N (Kd.slice 28 k28) 30 w' w.heap.size (fun k_ => (w.heap.size ≤ k_) ∧ some k_ ≠ (v5 : Value).ownBlock ∧ k_ ≠ gb101 ∧ k_ ≠ gb102 ∧ k_ ≠ gb105) u106002 x106002_1) ∧ Aside0 (w'.heap[gb101]? = some (.cells #[.int .i64 a0_0, .int .i64 a0_1, (.slice A0_2 l0_2.length c0_2)] 24 (0, 0))) ∧ Aside0 (w'.heap[gb102]? = some (.cells #[.int .i64 0, .int .i64 0, (.slice none 0 0)] 24 (0, 0))) ∧ Aside0 (w'.heap[gb105]? = some (.cells #[.int .i64 t103, .int .i64 (wrap64 (1 + t104)), u106002] 24 (0, 0))) ∧ Aside0 (Below w.heap.size w w'))
            case atStart => exact ⟨(([] : List (S28))), (0), qq8, H', ⟨Nat.le_refl _⟩, ⟨qq1u⟩, ⟨by (with_reducible repeat (first | apply Kd.N_alloc | apply Kd.N_drewN | apply Kd.N_drew)); exact Kd.N_mono HO_106002.out (fun _ hk => ⟨hk.1, ⟨qqn, ⟨hk.2.1, ⟨hk.2.2.1, hk.2.2.2⟩⟩⟩⟩)⟩, ⟨bq BK101.out⟩, ⟨bq BK102.out⟩, ⟨bq BK105.out⟩, ⟨qS3 GE101 GE102 GE105 HB.out⟩⟩
            case round =>
              clear H'
              try clear c1
              try clear c2
              try clear p2
              try clear c3
              try clear p6
              try clear c12
              try clear c13
              try clear c13b0
              try clear c14
              try clear c14b0
              try clear c15
              try clear c15b0
              try clear c16
              try clear c17
              try clear c19
              try clear c20
              try clear c22
              try clear c24
              try clear c25
              try clear c27
              try clear c28
              try clear c30
              try clear hcz18_0
              try clear hcz18_1
              try clear hcz18_2
              try clear hcz21_0
              try clear hcz21_1
              try clear hcz21_2
              try clear hcz23_0
              try clear hcz23_1
              try clear hcz23_2
              try clear hcz26_0
              try clear hcz26_1
              try clear hcz26_2
              try clear hcz29_0
              try clear hcz29_1
              try clear hcz29_2
              try clear hfz18_0
              try clear hfz18_1
              try clear hfz18_2
              try clear hfz21_0
              try clear hfz21_1
              try clear hfz21_2
              try clear hfz23_0
              try clear hfz23_1
              try clear hfz23_2
              try clear hfz26_0
              try clear hfz26_1
              try clear hfz26_2
              try clear hfz29_0
              try clear hfz29_1
              try clear hfz29_2
              try clear p2
              try clear p6
              obtain ⟨x5_3, x6_3, rfl, HA, HK3, HO_5, HO_106002, BK101, BK102, BK105, HB⟩ := hrel
              cases gk with
              | zero => exact absurd HA.out (by simp [partitalaw16_File.l1])
              | succ k3 =>
                have H := HA.out
                clear HA
                simp only [partitalaw16_File.l1] at H
                by_cases c32 : 0 ≤ x4_1
                rotate_left
                · rw [if_neg c32] at H
                  exact absurd H (by simp)
                rw [if_pos c32] at H
                have c32b0 : decide (0 ≤ x4_1) = true := decide_eq_true c32
                clear c32
                (first | rw [c32b0] | (simp only [i64_w, i32_w]; rw [c32b0]) | skip)
                by_cases c33 : x4_1 < (l0_2.length : Int)
                rotate_left
                · rw [if_neg c33] at H
                  exact absurd H (by simp)
                rw [if_pos c33] at H
                have c33b0 : decide (x4_1 < (l0_2.length : Int)) = true := decide_eq_true c33
                clear c33
                by_cases c34 : x6_3 < ((rd_L3 l0_2 x4_1).length : Int)
                rotate_left
                · rw [if_neg c34] at H
                  have c34b0 : decide (x6_3 < ((rd_L3 l0_2 x4_1).length : Int)) = false := decide_eq_false c34
                  clear c34
                  have H' := Aside0.mk H
                  clear H
                  have hnb47 := NB101_102.out
                  have hnc47 := NB102_101.out
                  have hnb48 := NB101_105.out
                  have hnc48 := NB105_101.out
                  obtain ⟨hcz49_0, hcz49_1, hcz49_2, hfz49_0, hfz49_1, hfz49_2⟩ := blk3 BK101.out
                  have p106 : 0 ≤ (x4_1 : Int) := of_decide_eq_true qq4
                  have q106 : x4_1 < (l0_2.length : Int) := of_decide_eq_true qq4
                  obtain ⟨ad106, A106_0, c106_0, e106, hx106_0, hl106_0, hi106_0⟩ := at_L3 HR0_2.out x4_1 p106 q106
                  cases e106
                  replace hx106_0 := (HB.out.cell (World.block_lt_of_cell? w _ hx106_0)).trans hx106_0
                  have HR106_0 := Aside0.mk hi106_0
                  have HC106_0 := Aside0.mk hl106_0
                  clear hi106_0 hl106_0
                  replace p106 := eq_true p106
                  replace q106 := eq_true q106
                  go_wp2
                  go_meet
                  case rel => exact ⟨_, (x5_3), H', ⟨by have := HK1.out; have := HJ11.out; have := HK3.out; first | omega | exact Nat.le_refl _⟩, ⟨qR HO_5.out⟩, ⟨qN HO_106002.out⟩, ⟨bq BK101.out⟩, ⟨bq BK102.out⟩, ⟨bq BK105.out⟩, ⟨qS3 GE101 GE102 GE105 HB.out⟩⟩
                rw [if_pos c34] at H
                have c34b0 : decide (x6_3 < ((rd_L3 l0_2 x4_1).length : Int)) = true := decide_eq_true c34
                clear c34
                by_cases c35 : x6_3 < 12
                rotate_left
                · rw [if_neg c35] at H
                  have c35b0 : decide (x6_3 < 12) = false := decide_eq_false c35
                  clear c35
                  have H' := Aside0.mk H
                  clear H
                  have hnb44 := NB101_102.out
                  have hnc44 := NB102_101.out
                  have hnb45 := NB101_105.out
                  have hnc45 := NB105_101.out
                  obtain ⟨hcz46_0, hcz46_1, hcz46_2, hfz46_0, hfz46_1, hfz46_2⟩ := blk3 BK101.out
                  have p106 : 0 ≤ (x4_1 : Int) := of_decide_eq_true qq4
                  have q106 : x4_1 < (l0_2.length : Int) := of_decide_eq_true qq4
                  obtain ⟨ad106, A106_0, c106_0, e106, hx106_0, hl106_0, hi106_0⟩ := at_L3 HR0_2.out x4_1 p106 q106
                  cases e106
                  replace hx106_0 := (HB.out.cell (World.block_lt_of_cell? w _ hx106_0)).trans hx106_0
                  have HR106_0 := Aside0.mk hi106_0
                  have HC106_0 := Aside0.mk hl106_0
                  clear hi106_0 hl106_0
                  replace p106 := eq_true p106
                  replace q106 := eq_true q106
                  go_wp2
                  go_meet
                  case rel => exact ⟨_, (x5_3), H', ⟨by have := HK1.out; have := HJ11.out; have := HK3.out; first | omega | exact Nat.le_refl _⟩, ⟨qR HO_5.out⟩, ⟨qN HO_106002.out⟩, ⟨bq BK101.out⟩, ⟨bq BK102.out⟩, ⟨bq BK105.out⟩, ⟨qS3 GE101 GE102 GE105 HB.out⟩⟩
                rw [if_pos c35] at H
                have c35b0 : decide (x6_3 < 12) = true := decide_eq_true c35
                clear c35
                by_cases c36 : 0 ≤ x6_3
                rotate_left
                · rw [if_neg c36] at H
                  exact absurd H (by simp)
                rw [if_pos c36] at H
                have c36b0 : decide (0 ≤ x6_3) = true := decide_eq_true c36
                clear c36
                replace H := Option.bind_eq_some_iff.mp H
                obtain ⟨⟨t109, t110, t111, t112, t113, t114⟩, A370, H⟩ := H
                try dsimp -simprocs only at H
                have A37 := Aside0.mk A370
                clear A370
                by_cases c38 : x5_3.length < 2513169434916
                rotate_left
                · rw [if_neg c38] at H
                  exact absurd H (by simp)
                rw [if_pos c38] at H
                have LMc38 := Aside0.mk c38
                clear c38
                obtain ⟨y115, hy115⟩ : ∃ y_ : List (S28), y_ = (x5_3 ++ [(⟨t109, t110, t111, t112, t113, t114⟩ : S28)]) := ⟨_, rfl⟩
                replace H : (partitalaw16_File.l1 k3 x4_1 y115 (wrap64 (x6_3 + 1)) a0_0 a0_1 l0_2 t103 (wrap64 (1 + t104)) x106002_1) = some (r1, r2, r3) := by first | (rw [hy115]; with_reducible exact H) | (have H2_ := (Option.bind_some _ _).symm.trans H; rw [hy115]; with_reducible exact H2_) | (have H2_ := (Option.bind_some _ _).symm.trans H; with_reducible exact H2_) | with_reducible exact H | (rw [hy115]; exact H) | exact H
                have Ny115 := Aside0.mk hy115
                clear hy115
                have H' := Aside0.mk H
                clear H
                have hnb39 := NB101_102.out
                have hnc39 := NB102_101.out
                have hnb40 := NB101_105.out
                have hnc40 := NB105_101.out
                obtain ⟨hcz41_0, hcz41_1, hcz41_2, hfz41_0, hfz41_1, hfz41_2⟩ := blk3 BK101.out
                have p106 : 0 ≤ (x4_1 : Int) := of_decide_eq_true qq4
                have q106 : x4_1 < (l0_2.length : Int) := of_decide_eq_true qq4
                obtain ⟨ad106, A106_0, c106_0, e106, hx106_0, hl106_0, hi106_0⟩ := at_L3 HR0_2.out x4_1 p106 q106
                cases e106
                replace hx106_0 := (HB.out.cell (World.block_lt_of_cell? w _ hx106_0)).trans hx106_0
                have HR106_0 := Aside0.mk hi106_0
                have HC106_0 := Aside0.mk hl106_0
                clear hi106_0 hl106_0
                replace p106 := eq_true p106
                replace q106 := eq_true q106
                have p107 : 0 ≤ (x4_1 : Int) := of_decide_eq_true qq4
                have q107 : x4_1 < (l0_2.length : Int) := of_decide_eq_true qq4
                obtain ⟨ad107, A107_0, c107_0, e107, hx107_0, hl107_0, hi107_0⟩ := at_L3 HR0_2.out x4_1 p107 q107
                obtain rfl : ad106 = ad107 := (by injection e107)
                replace hx107_0 := (HB.out.cell (World.block_lt_of_cell? w _ hx107_0)).trans hx107_0
                have HR107_0 := Aside0.mk hi107_0
                have HC107_0 := Aside0.mk hl107_0
                clear hi107_0 hl107_0
                replace p107 := eq_true p107
                replace q107 := eq_true q107
                have ea_ := Option.some.inj (hx106_0.symm.trans hx107_0)
                injection ea_ with ea_ en_ ec_
                subst ea_
                subst ec_
                clear en_
                have p108 : 0 ≤ (x6_3 : Int) := of_decide_eq_true qq4
                have q108 : x6_3 < ((rd_L3 l0_2 x4_1).length : Int) := of_decide_eq_true qq4
                obtain ⟨ad108, e108, hx108_0, hx108_1, hx108_2, hx108_3, hx108_4, hx108_5⟩ := at_T28 HR107_0.out x6_3 p108 q108
                cases e108
                replace hx108_0 := (HB.out.cell (World.block_lt_of_cell? w _ hx108_0)).trans hx108_0
                replace hx108_1 := (HB.out.cell (World.block_lt_of_cell? w _ hx108_1)).trans hx108_1
                replace hx108_2 := (HB.out.cell (World.block_lt_of_cell? w _ hx108_2)).trans hx108_2
                replace hx108_3 := (HB.out.cell (World.block_lt_of_cell? w _ hx108_3)).trans hx108_3
                replace hx108_4 := (HB.out.cell (World.block_lt_of_cell? w _ hx108_4)).trans hx108_4
                replace hx108_5 := (HB.out.cell (World.block_lt_of_cell? w _ hx108_5)).trans hx108_5
                replace p108 := eq_true p108
                replace q108 := eq_true q108
                go_wp2_with (first | ((with_reducible refine gate_callee (f := 25) rfl ?_); refine goesL_ (some 58) rfl rfl Try.func25 (by kernel_rfl) rfl #[.agg #[.int .i64 ((rd_T28 (rd_L3 l0_2 x4_1) x6_3).f0), .int .i64 ((rd_T28 (rd_L3 l0_2 x4_1) x6_3).f1), .int .i64 ((rd_T28 (rd_L3 l0_2 x4_1) x6_3).f2), .int .i64 ((rd_T28 (rd_L3 l0_2 x4_1) x6_3).f3), .int .i64 ((rd_T28 (rd_L3 l0_2 x4_1) x6_3).f4), .string ((rd_T28 (rd_L3 l0_2 x4_1) x6_3).f5)]] rfl qq0 ?_; (with_reducible refine (partitalaw16_Message.calls ((rd_T28 (rd_L3 l0_2 x4_1) x6_3).f0) ((rd_T28 (rd_L3 l0_2 x4_1) x6_3).f1) ((rd_T28 (rd_L3 l0_2 x4_1) x6_3).f2) ((rd_T28 (rd_L3 l0_2 x4_1) x6_3).f3) ((rd_T28 (rd_L3 l0_2 x4_1) x6_3).f4) ((rd_T28 (rd_L3 l0_2 x4_1) x6_3).f5) t109 t110 t111 t112 t113 t114 _ A37.out).mono ?_); rintro e w42 ⟨rfl, hb⟩; refine ⟨_, rfl, ?_⟩; replace HO_5 := Aside0.mk (Kd.R_below (qR HO_5.out) hb); replace HO_106002 := Aside0.mk (Kd.N_below (qN HO_106002.out) hb); replace BK101 := Aside0.mk (blk_below (bq BK101.out) hb); replace BK102 := Aside0.mk (blk_below (bq BK102.out) hb); replace BK105 := Aside0.mk (blk_below (bq BK105.out) hb); replace HB := Aside0.mk (below_step (qS3 GE101 GE102 GE105 HB.out) hb); (try clear hb); (try clear hb2); (try clear hk); (try clear hi)) | ((with_reducible refine gate_builtin (b := .append) (xs := #[.tmp 49, .tmp 59]) rfl ?_); at_builtin; refine Kd.R_append k28 (w0 := w) w.heap.size rfl (.tmp 49) (.tmp 59) 30 28 (.agg #[(.int .i64 0), (.int .i64 0), (.int .i64 0), (.int .i64 0), (.int .i64 0), (.string ⟨#[]⟩)]) 56 rfl Try.underlying30 info28 rfl (by decide) (by omega) u5 x5_3 (⟨t109, t110, t111, t112, t113, t114⟩ : S28) [.int .i64 t109, .int .i64 t110, .int .i64 t111, .int .i64 t112, .int .i64 t113, .string t114] (fun k_ => (w.heap.size ≤ k_)) (fun _ => False) rfl rfl ?aP (fun _ hk => hk.elim) ?aF ?aO ?aB ?aS ?aL ?_; (case aP => exact k28_mkM _ _ _ (⟨t109, t110, t111, t112, t113, t114⟩ : S28)); (case aB => exact (qS3 GE101 GE102 GE105 HB.out)); (case aF => exact (fun k_ hk => (Nat.le_trans (below_size (qS3 GE101 GE102 GE105 HB.out)) hk))); (case aO => exact (qR HO_5.out)); (case aS => exact (below_size (qS3 GE101 GE102 GE105 HB.out))); (case aL => have := LMc38.out; omega); intro v116 w43 ho hb hg hat; rw [← Ny115.out] at ho; replace HO_106002 := Aside0.mk (Kd.N_afterv (ok := (fun k_ => (w.heap.size ≤ k_) ∧ k_ ≠ gb101 ∧ k_ ≠ gb102 ∧ k_ ≠ gb105)) qq1f hg hat); replace BK101 := Aside0.mk (blk_grown (bq BK101.out) hg (Kd.R_ne HO_5.out BK101.out (by decide))); replace BK102 := Aside0.mk (blk_grown (bq BK102.out) hg (Kd.R_ne HO_5.out BK102.out (by decide))); replace BK105 := Aside0.mk (blk_grown (bq BK105.out) hg (Kd.R_ne HO_5.out BK105.out (by decide))); replace HB := Aside0.mk (hb); have HO117 := Aside0.mk (ho); clear HO_5; clear ho hb hg hat))
                go_roundg k3
                case measure => have := HK1.out; have := HJ11.out; have := HK3.out; omega
                case rel => exact ⟨(y115), (wrap64 (x6_3 + 1)), qq8, H', ⟨by have := HK1.out; have := HJ11.out; have := HK3.out; omega⟩, ⟨qR HO117.out⟩, ⟨by (with_reducible repeat (first | apply Kd.N_alloc | apply Kd.N_drewN | apply Kd.N_drew)); exact Kd.N_mono HO_106002.out (fun _ hk => ⟨hk.1.1, ⟨hk.2, ⟨hk.1.2.1, ⟨hk.1.2.2.1, hk.1.2.2.2⟩⟩⟩⟩)⟩, ⟨bq BK101.out⟩, ⟨bq BK102.out⟩, ⟨bq BK105.out⟩, ⟨qS3 GE101 GE102 GE105 HB.out⟩⟩
          case rest =>
            clear HC31
            try clear c1
            try clear p1
            try clear q1
            try clear hx1
            try clear c2
            try clear p2
            try clear c3
            try clear c4
            try clear p6
            try clear c10
            try clear p10
            try clear q10
            try clear hx10
            try clear c12
            try clear c13
            try clear c13b0
            try clear c14
            try clear c14b0
            try clear c15
            try clear c15b0
            try clear c16
            try clear c17
            try clear c19
            try clear c20
            try clear c22
            try clear c24
            try clear c25
            try clear c27
            try clear c28
            try clear c30
            try clear c32
            try clear c32b0
            try clear c33
            try clear c33b0
            try clear c34
            try clear c34b0
            try clear c35
            try clear c35b0
            try clear c36
            try clear c36b0
            try clear c38
            try clear c39
            try clear c40
            try clear c44
            try clear c45
            try clear c47
            try clear c48
            try clear hcz18_0
            try clear hcz18_1
            try clear hcz18_2
            try clear hcz21_0
            try clear hcz21_1
            try clear hcz21_2
            try clear hcz23_0
            try clear hcz23_1
            try clear hcz23_2
            try clear hcz26_0
            try clear hcz26_1
            try clear hcz26_2
            try clear hcz29_0
            try clear hcz29_1
            try clear hcz29_2
            try clear hcz41_0
            try clear hcz41_1
            try clear hcz41_2
            try clear hcz46_0
            try clear hcz46_1
            try clear hcz46_2
            try clear hcz49_0
            try clear hcz49_1
            try clear hcz49_2
            try clear hfz18_0
            try clear hfz18_1
            try clear hfz18_2
            try clear hfz21_0
            try clear hfz21_1
            try clear hfz21_2
            try clear hfz23_0
            try clear hfz23_1
            try clear hfz23_2
            try clear hfz26_0
            try clear hfz26_1
            try clear hfz26_2
            try clear hfz29_0
            try clear hfz29_1
            try clear hfz29_2
            try clear hfz41_0
            try clear hfz41_1
            try clear hfz41_2
            try clear hfz46_0
            try clear hfz46_1
            try clear hfz46_2
            try clear hfz49_0
            try clear hfz49_1
            try clear hfz49_2
            try clear hx106_0
            try clear hx107_0
            try clear hx108_0
            try clear hx108_1
            try clear hx108_2
            try clear hx108_3
            try clear hx108_4
            try clear hx108_5
            try clear p106
            try clear p107
            try clear p108
            try clear p2
            try clear p6
            try clear q106
            try clear q107
            try clear q108
            obtain ⟨kq, x5_30, HA, HJ30, HO_5, HO_106002, BK101, BK102, BK105, HB⟩ := hcut
            cases kq with
            | zero => exact absurd HA.out (by simp [partitalaw16_File.j3])
            | succ kj30 =>
              have H := HA.out
              clear HA
              simp only [partitalaw16_File.j3] at H
              replace H := Option.bind_eq_some_iff.mp H
              obtain ⟨⟨t118, t119, t120, t121, t122, t123⟩, A500, H⟩ := H
              try dsimp -simprocs only at H
              have A50 := Aside0.mk A500
              clear A500
              by_cases c51 : x5_30.length < 2513169434916
              rotate_left
              · rw [if_neg c51] at H
                exact absurd H (by simp)
              rw [if_pos c51] at H
              have LMc51 := Aside0.mk c51
              clear c51
              obtain ⟨y124, hy124⟩ : ∃ y_ : List (S28), y_ = (x5_30 ++ [(⟨t118, t119, t120, t121, t122, t123⟩ : S28)]) := ⟨_, rfl⟩
              replace H : (if x106002_1.length < 5864062014805 then (partitalaw16_File.l0 kj30 (wrap64 (x4_1 + 1)) a0_0 a0_1 l0_2 t103 (wrap64 (1 + t104)) (x106002_1 ++ [y124])) else (none)) = some (r1, r2, r3) := by first | (rw [hy124]; with_reducible exact H) | (have H2_ := (Option.bind_some _ _).symm.trans H; rw [hy124]; with_reducible exact H2_) | (have H2_ := (Option.bind_some _ _).symm.trans H; with_reducible exact H2_) | with_reducible exact H | (rw [hy124]; exact H) | exact H
              have Ny124 := Aside0.mk hy124
              clear hy124
              by_cases c52 : x106002_1.length < 5864062014805
              rotate_left
              · rw [if_neg c52] at H
                exact absurd H (by simp)
              rw [if_pos c52] at H
              have LMc52 := Aside0.mk c52
              clear c52
              obtain ⟨y127, hy127⟩ : ∃ y_ : List (List (S28)), y_ = (x106002_1 ++ [y124]) := ⟨_, rfl⟩
              replace H : (partitalaw16_File.l0 kj30 (wrap64 (x4_1 + 1)) a0_0 a0_1 l0_2 t103 (wrap64 (1 + t104)) y127) = some (r1, r2, r3) := by first | (rw [hy127]; with_reducible exact H) | (have H2_ := (Option.bind_some _ _).symm.trans H; rw [hy127]; with_reducible exact H2_) | (have H2_ := (Option.bind_some _ _).symm.trans H; with_reducible exact H2_) | with_reducible exact H | (rw [hy127]; exact H) | exact H
              have Ny127 := Aside0.mk hy127
              clear hy127
              have H' := Aside0.mk H
              clear H
              try go_wp2
              replace HO_5 := Aside0.mk (Kd.R_drew HO_5.out)
              replace HO_106002 := Aside0.mk (Kd.N_drew HO_106002.out)
              replace BK101 := Aside0.mk (blk_drew BK101.out)
              replace BK102 := Aside0.mk (blk_drew BK102.out)
              replace BK105 := Aside0.mk (blk_drew BK105.out)
              replace HB := Aside0.mk (below_drew1 HB.out)
              obtain ⟨Ao54, co54, eo54⟩ := Kd.R_slice HO_5.out
              (first | subst eo54 | (injection eo54 with f1_ f2_ f3_; have f4_ := f1_.symm; have f5_ := f3_.symm; clear f1_ f2_ f3_; subst f4_; subst f5_))
              refine start_ (n := 12) (S := fun w' => w'.cell? ⟨gb105, 0, none⟩ = some (.int .i64 t103) ∧ w'.cell? ⟨gb105, 1, none⟩ = some (.int .i64 (wrap64 (1 + t104))) ∧ w'.cell? ⟨gb105, 2, none⟩ = some (u106002)) (ds := [11]) #[false, false, false, false, false, false, false, false, false, false, false, false] (by kernel_rfl) rfl rfl ⟨(blk_cell BK105.out 0).trans rfl, (blk_cell BK105.out 1).trans rfl, (blk_cell BK105.out 2).trans rfl⟩ (fun hHeld => ?_); refine with_tabW partitalaw16_File.tab10 partitalaw16_File.bits10 (fun HT_ HW_ => ?_)
              generalize wc.drew = w53 at HO_5 HO_106002 BK101 BK102 BK105 HB hHeld ⊢
              refine pureS 0 (some 61) (bs 1 12) ?_
              refine pureS 2 (some 63) (bs 5 12) ?_
              refine pureS 3 (some 64) (bs 13 12) ?_
              refine pureS 4 (some 65) (bs 29 12) ?_
              refine take_ (i := 1) (N := some 62) (v := ?_) (a' := ?_) (bs 31 12) rfl rfl (take_ofW HT_.out HW_.out (by kernel_rfl)) (fun _ _ _ h => h) (Or.inl ⟨by rfl, ?_⟩) hHeld ?_ ?_
              rotate_left
              · rintro w' ⟨s0, s1, s2⟩
                go_simp
                with_reducible rfl
              rotate_left
              · simp only [Act.put, List.setIfInBounds_toArray, List.set_cons_zero, List.set_cons_succ, i64_w, i32_w]
                rfl
              refine one_ (i := 5) (N := some 66) (bs 63 12) rfl rfl (one_of HT_.out (by kernel_rfl)) (by decide) (fun K hK => ?_)
              refine goes_ Try.func13 (by kernel_rfl) rfl #[.int .i64 (x5_30.length : Int)] (by rfl) rfl rfl qq0 ?_
              with_reducible refine (partitalaw16_End.calls (x5_30.length : Int) t118 t119 t120 t121 t122 t123 _ A50.out).mono ?_
              rintro e w55 ⟨rfl, hb⟩
              refine ⟨_, rfl, ?_⟩
              replace HO_5 := Aside0.mk (Kd.R_below (qR HO_5.out) hb)
              replace HO_106002 := Aside0.mk (Kd.N_below (qN HO_106002.out) hb)
              replace BK101 := Aside0.mk (blk_below (bq BK101.out) hb)
              replace BK102 := Aside0.mk (blk_below (bq BK102.out) hb)
              replace BK105 := Aside0.mk (blk_below (bq BK105.out) hb)
              replace HB := Aside0.mk (below_step (qS3 GE101 GE102 GE105 HB.out) hb)
              (try clear hb)
              (try clear hb2)
              (try clear hk)
              (try clear hi)
              refine hK.out _ _ ⟨(blk_cell BK105.out 0).trans rfl, (blk_cell BK105.out 1).trans rfl, (blk_cell BK105.out 2).trans rfl⟩ (fun hHeld => ?_)
              clear hK K
              refine normS (some 66) ?_
              refine one_ (i := 6) (N := some 67) (bs 127 12) rfl rfl (one_of HT_.out (by kernel_rfl)) (by decide) (fun K hK => ?_)
              refine value_ (w1 := ?_) (v := ?_) (by rfl) rfl ?_ ?_
              rotate_left 2
              · go_simp
                constructor
                · rfl
                rfl
              refine hK.out _ _ ⟨(blk_cell (blk_alloc BK105.out _) 0).trans rfl, (blk_cell (blk_alloc BK105.out _) 1).trans rfl, (blk_cell (blk_alloc BK105.out _) 2).trans rfl⟩ (fun hHeld => ?_)
              clear hK K
              refine normS (some 67) ?_
              refine one_ (i := 7) (N := some 68) (bs 255 12) rfl rfl (one_of HT_.out (by kernel_rfl)) (by decide) (fun K hK => ?_)
              refine Kd.R_append_step k28 (w0 := w) w.heap.size (by rfl) (.tmp 63) (.tmp 67) 30 28 (.agg #[(.int .i64 0), (.int .i64 0), (.int .i64 0), (.int .i64 0), (.int .i64 0), (.string ⟨#[]⟩)]) 56 rfl Try.underlying30 info28 rfl (by decide) (by omega) (.slice Ao54 x5_30.length co54) x5_30 (⟨t118, t119, t120, t121, t122, t123⟩ : S28) [.int .i64 t118, .int .i64 t119, .int .i64 t120, .int .i64 t121, .int .i64 t122, .string t123] (fun k_ => (w.heap.size ≤ k_)) (fun _ => False) rfl rfl ?aP (fun _ hk => hk.elim) ?aF ?aO ?aB ?aS ?aL ?_
              (case aP => exact k28_mkM _ _ _ (⟨t118, t119, t120, t121, t122, t123⟩ : S28))
              (case aB => exact (qS3 GE101 GE102 GE105 HB.out))
              (case aF => exact (fun k_ hk => (Nat.le_trans (below_size (qS3 GE101 GE102 GE105 HB.out)) hk)))
              (case aO => exact (qR HO_5.out))
              (case aS => exact (below_size (qS3 GE101 GE102 GE105 HB.out)))
              (case aL => have := LMc51.out; omega)
              intro v125 w56 ho hb hg hat
              rw [← Ny124.out] at ho
              replace HO_106002 := Aside0.mk (Kd.N_afterv (ok := (fun k_ => (w.heap.size ≤ k_) ∧ k_ ≠ gb101 ∧ k_ ≠ gb102 ∧ k_ ≠ gb105)) qq1f hg hat)
              replace BK101 := Aside0.mk (blk_grown (bq BK101.out) hg (Kd.R_ne HO_5.out BK101.out (by decide)))
              replace BK102 := Aside0.mk (blk_grown (bq BK102.out) hg (Kd.R_ne HO_5.out BK102.out (by decide)))
              replace BK105 := Aside0.mk (blk_grown (bq BK105.out) hg (Kd.R_ne HO_5.out BK105.out (by decide)))
              replace HB := Aside0.mk (hb)
              have HO126 := Aside0.mk (ho)
              clear HO_5
              clear ho hb hg hat
              obtain ⟨Ao58, co58, eo58⟩ := Kd.R_slice HO126.out
              (first | subst eo58 | (injection eo58 with f1_ f2_ f3_; have f4_ := f1_.symm; have f5_ := f3_.symm; clear f1_ f2_ f3_; subst f4_; subst f5_))
              refine hK.out _ _ ⟨(blk_cell BK105.out 0).trans rfl, (blk_cell BK105.out 1).trans rfl, (blk_cell BK105.out 2).trans rfl⟩ (fun hHeld => ?_)
              clear hK K
              refine normS (some 68) ?_
              refine one_ (i := 8) (N := some 69) (bs 511 12) rfl rfl (one_of HT_.out (by kernel_rfl)) (by decide) (fun K hK => ?_)
              refine value_ (w1 := ?_) (v := ?_) (by rfl) rfl ?_ ?_
              rotate_left 2
              · go_simp
                constructor
                · rfl
                rfl
              refine hK.out _ _ ⟨(blk_cell (blk_alloc BK105.out _) 0).trans rfl, (blk_cell (blk_alloc BK105.out _) 1).trans rfl, (blk_cell (blk_alloc BK105.out _) 2).trans rfl⟩ (fun hHeld => ?_)
              clear hK K
              refine normS (some 69) ?_
              refine one_ (i := 9) (N := some 70) (bs 1023 12) rfl rfl (one_of HT_.out (by kernel_rfl)) (by decide) (fun K hK => ?_)
              refine Kd.N_append_step (Kd.slice 28 k28) (w0 := w) w.heap.size (by rfl) (.tmp 62) (.tmp 69) 22 30 (.slice none 0 0) 24 rfl Try.underlying22 info30 rfl (by decide) (by omega) u106002 x106002_1 y124 [.slice Ao58 y124.length co58] (fun k_ => (w.heap.size ≤ k_) ∧ k_ ≠ gb101 ∧ k_ ≠ gb102 ∧ k_ ≠ gb105) (fun k_ => ((fun k_ => (w.heap.size ≤ k_) ∧ k_ ≠ gb101 ∧ k_ ≠ gb102 ∧ k_ ≠ gb105)) k_ ∧ some k_ ≠ (u106002 : Value).ownBlock) rfl rfl ?aP (fun _ hk => hk) ?aF ?aO ?aB ?aS ?aL ?_
              (case aP => exact (Kd.FK_slice_mk (Kd.R_reads' (Kd.R_mono (ok' := (fun k_ => ((fun k_ => (w.heap.size ≤ k_) ∧ k_ ≠ gb101 ∧ k_ ≠ gb102 ∧ k_ ≠ gb105)) k_ ∧ some k_ ≠ (u106002 : Value).ownBlock)) (Kd.R_types (Kd.R_types (Kd.R_types (Kd.R_apart' (HO126.out) (Kd.N_typed HO_106002.out) (by decide)) BK101.out (by decide)) BK102.out (by decide)) BK105.out (by decide)) (fun k_ hk => ⟨⟨hk.1.1.1.1, ⟨hk.1.1.2, ⟨hk.1.2, hk.2⟩⟩⟩, hk.1.1.1.2⟩))).2.1 (Kd.R_F (Kd.R_mono (ok' := (fun k_ => ((fun k_ => (w.heap.size ≤ k_) ∧ k_ ≠ gb101 ∧ k_ ≠ gb102 ∧ k_ ≠ gb105)) k_ ∧ some k_ ≠ (u106002 : Value).ownBlock)) (Kd.R_types (Kd.R_types (Kd.R_types (Kd.R_apart' (HO126.out) (Kd.N_typed HO_106002.out) (by decide)) BK101.out (by decide)) BK102.out (by decide)) BK105.out (by decide)) (fun k_ hk => ⟨⟨hk.1.1.1.1, ⟨hk.1.1.2, ⟨hk.1.2, hk.2⟩⟩⟩, hk.1.1.1.2⟩)))))
              (case aB => exact (qS3 GE101 GE102 GE105 HB.out))
              (case aF => exact (fun k_ hk => ⟨(Nat.le_trans (below_size (qS3 GE101 GE102 GE105 HB.out)) hk), Kd.freshB (bq BK101.out) k_ hk, Kd.freshB (bq BK102.out) k_ hk, Kd.freshB (bq BK105.out) k_ hk⟩))
              (case aO => exact (by (with_reducible repeat (first | apply Kd.N_alloc | apply Kd.N_drewN | apply Kd.N_drew)); exact Kd.N_mono HO_106002.out (fun _ hk => ⟨hk.1.1, ⟨hk.1.2.1, ⟨hk.1.2.2.1, hk.1.2.2.2⟩⟩⟩)))
              (case aS => exact (below_size (qS3 GE101 GE102 GE105 HB.out)))
              (case aL => have := LMc52.out; omega)
              intro v128 w57 ho hb hg hat
              rw [← Ny127.out] at ho
              replace BK101 := Aside0.mk (blk_grown (bq BK101.out) hg (Kd.N_ne HO_106002.out BK101.out (by decide)))
              replace BK102 := Aside0.mk (blk_grown (bq BK102.out) hg (Kd.N_ne HO_106002.out BK102.out (by decide)))
              replace BK105 := Aside0.mk (blk_grown (bq BK105.out) hg (Kd.N_ne HO_106002.out BK105.out (by decide)))
              replace HB := Aside0.mk (hb)
              have HO129 := Aside0.mk (ho)
              clear HO_106002 HO126
              clear ho hb hg hat
              obtain ⟨Ao59, co59, eo59⟩ := Kd.N_slice HO129.out
              (first | subst eo59 | (injection eo59 with f1_ f2_ f3_; have f4_ := f1_.symm; have f5_ := f3_.symm; clear f1_ f2_ f3_; subst f4_; subst f5_))
              refine hK.out _ _ ⟨(blk_cell BK105.out 0).trans rfl, (blk_cell BK105.out 1).trans rfl, (blk_cell BK105.out 2).trans rfl⟩ (fun hHeld => ?_)
              clear hK K
              refine normS (some 70) ?_
              refine pureS 10 (some 71) (bs 2047 12) ?_
              refine last_ (i := 11) (N := none) (bs 4095 12) rfl rfl (one_of HT_.out (by kernel_rfl)) (by decide) (fun K hK => ?_)
              have hs60 : w57.cell? ⟨gb105, 2, none⟩ = some (u106002) := (blk_cell BK105.out 2).trans rfl
              have hfs60 := blk_frozen BK105.out 2
              have hns60_0 := NB101_105.out
              have hns60_1 := NB102_105.out
              have hms60_0 := NB105_101.out
              have hms60_1 := NB105_102.out
              refine skip_ (w1 := ?_) (by rfl) rfl ?_ ?_
              rotate_left
              · go_simp
                rfl
              refine hK.out _ _ ?_
              clear hK K
              refine done_ (done_of HT_.out (by kernel_rfl)) ?_
              try go_wp2
              go_roundg kj30
              case measure => have := HK1.out; have := HJ11.out; have := HJ30.out; omega
              case rel => exact ⟨(wrap64 (x4_1 + 1)), (y127), (.slice Ao59 y127.length co59), qq8, H', ⟨by have := HK1.out; have := HJ11.out; have := HJ30.out; omega⟩, ⟨by (with_reducible repeat (first | apply Kd.N_alloc | apply Kd.N_drewN | apply Kd.N_drew)); exact Kd.N_mono (Kd.N_far (p := ⟨gb105, 2, none⟩) (Kd.N_mono HO129.out (fun k_ hk => (⟨hk, hk.2.2.2⟩ : _ ∧ k_ ≠ gb105))) (fun _ hk => hk.2) (.slice Ao59 y127.length co59)) (fun _ hk => ⟨hk.1.1, ⟨hk.1.2.1, ⟨hk.1.2.2.1, hk.1.2.2.2⟩⟩⟩)⟩, ⟨by (with_reducible repeat (first | refine blk_drewN ?_ _ | refine blk_drew ?_ | refine blk_alloc ?_ _)); refine blk_far ?_ NB101_105.out _; (with_reducible repeat (first | refine blk_drewN ?_ _ | refine blk_drew ?_ | refine blk_alloc ?_ _)); exact BK101.out⟩, ⟨by (with_reducible repeat (first | refine blk_drewN ?_ _ | refine blk_drew ?_ | refine blk_alloc ?_ _)); refine blk_far ?_ NB102_105.out _; (with_reducible repeat (first | refine blk_drewN ?_ _ | refine blk_drew ?_ | refine blk_alloc ?_ _)); exact BK102.out⟩, ⟨by (with_reducible repeat (first | refine blk_drewN ?_ _ | refine blk_drew ?_ | refine blk_alloc ?_ _)); refine blk_put (cs := #[.int .i64 t103, .int .i64 (wrap64 (1 + t104)), u106002]) ?_ 2 _ rfl; (with_reducible repeat (first | refine blk_drewN ?_ _ | refine blk_drew ?_ | refine blk_alloc ?_ _)); exact BK105.out⟩, ⟨qS3 GE101 GE102 GE105 HB.out⟩⟩
end Go.Proofs.Ytdmnknhlibaaoaa.M
namespace Go.Proofs.Ytdmnknhlibaaoaa.Z
open Go.RowKit Go.Proofs.YtdmnknhlibaaoaaW.PrintWords Go.Proofs.YtdmnknhlibaaoaaW.PrintLast Go.Proofs.YtdmnknhlibaaoaaW.PrintMore Go.Proofs.Ytdmnknhlibaaoaa.M
set_option linter.unusedVariables false
theorem tmod_range {x n : Int} (hx : 0 ≤ x) (hn : 0 < n) : 0 ≤ Int.tmod x n ∧ Int.tmod x n < n := ⟨Int.tmod_nonneg n hx, Int.tmod_lt_of_pos x hn⟩
theorem pick_f {c n : Int} (hc : I64 c) (hn : 0 < n) : ∃ r, partitalaw16_pick.f c n = some r ∧ 0 ≤ r ∧ r < n := by
  unfold partitalaw16_pick.f
  obtain ⟨h0, h1⟩ := hc
  by_cases c1 : c < 0
  · rw [if_pos c1, if_neg (by omega)]
    have e1 : wrap64 (c + 1) = c + 1 := w64 (by omega) (by omega)
    have e2 : wrap64 (-(c + 1)) = -(c + 1) := w64 (by omega) (by omega)
    rw [e1, e2]
    exact ⟨_, rfl, tmod_range (by omega) hn⟩
  · rw [if_neg c1, if_neg (by omega)]
    exact ⟨_, rfl, tmod_range (by omega) hn⟩
theorem mn_le (a : Int) (ha : 0 ≤ a) : 0 ≤ mn a 200 ∧ mn a 200 ≤ a ∧ mn a 200 ≤ 200 := by
  unfold mn
  split <;> omega
theorem message_f {m : Msg} (hm : Raw m) : ∃ x : Msg, partitalaw16_Message.f m.f0 m.f1 m.f2 m.f3 m.f4 m.f5 = some (x.f0, x.f1, x.f2, x.f3, x.f4, x.f5) ∧ GM x := by
  obtain ⟨h0, h1, h2, h3, h4⟩ := hm
  obtain ⟨d, ed, d0, d1⟩ := pick_f h0 (n := 7) (by decide)
  obtain ⟨k, ek, k0, k1⟩ := pick_f h1 (n := 9) (by decide)
  obtain ⟨s, es, s0, s1⟩ := pick_f h3 (n := 2) (by decide)
  obtain ⟨t, et, t0, t1⟩ := pick_f h3 (n := 47) (by decide)
  obtain ⟨c, ec, c0, c1⟩ := pick_f h2 (n := 16) (by decide)
  obtain ⟨a, ea, a0, a1⟩ := pick_f h3 (n := 128) (by decide)
  obtain ⟨b, eb, b0, b1⟩ := pick_f h4 (n := 128) (by decide)
  have hsz : 0 ≤ (m.f5.size : Int) := by omega
  obtain ⟨q0, q1, q2⟩ := mn_le (m.f5.size : Int) hsz
  have ew : wrap64 (8 + k) = 8 + k := w64 (by omega) (by omega)
  have hd : 0 ≤ rd [0, 1, 96, 127, 128, 16384, 268435455] d ∧ rd [0, 1, 96, 127, 128, 16384, 268435455] d ≤ 268435455 ∧ rd [0, 1, 96, 127, 128, 16384, 268435455] d ≠ 5000 := by
    have : d = 0 ∨ d = 1 ∨ d = 2 ∨ d = 3 ∨ d = 4 ∨ d = 5 ∨ d = 6 := by omega
    rcases this with rfl | rfl | rfl | rfl | rfl | rfl | rfl <;> decide
  have hs : rd [240, 247] s = 240 ∨ rd [240, 247] s = 247 := by
    have : s = 0 ∨ s = 1 := by omega
    rcases this with rfl | rfl
    · exact .inl rfl
    · exact .inr rfl
  have hx : (m.f5.extract 0 ((mn (m.f5.size : Int) 200) : Int).toNat).size ≤ 200 := by
    rw [ByteArray.size_extract]
    omega
  unfold partitalaw16_Message.f
  rw [Option.bind_some, ed, Option.bind_some, if_pos d0, if_pos (show d < (([0, 1, 96, 127, 128, 16384, 268435455] : List Int).length : Int) from d1), ek, Option.bind_some, if_pos q0, if_pos q1, ew]
  generalize hdd : rd [0, 1, 96, 127, 128, 16384, 268435455] d = dd at hd ⊢
  generalize m.f5.extract 0 ((mn (m.f5.size : Int) 200) : Int).toNat = data at hx ⊢
  have hn1 : (⟨#[]⟩ : ByteArray).size ≤ 100000 := by decide
  have hn2 : (⟨#[]⟩ : ByteArray).size ≤ 200 := by decide
  by_cases k7 : 8 + k = 15
  · rw [if_pos k7, Option.bind_some, es, Option.bind_some, if_pos s0, if_pos (show s < (([240, 247] : List Int).length : Int) from s1)]
    generalize rd [240, 247] s = ss at hs ⊢
    refine ⟨⟨dd, 8 + k, 0, ss, 0, data⟩, rfl, ⟨hd.1, hd.2.1, qq15, .inr (.inl ⟨k7, rfl, rfl, hs⟩)⟩, ?_, hx, hd.2.2⟩
    unfold isEnd
    dsimp only
    rw [decide_eq_false (by omega), Bool.false_and]
  rw [if_neg k7]
  by_cases k8 : 8 + k = 16
  · rw [if_pos k8, et, Option.bind_some]
    refine ⟨⟨dd, 8 + k, 0, t, 0, data⟩, rfl, ⟨hd.1, hd.2.1, qq15, .inr (.inr ⟨k8, rfl, rfl, t0, qq15⟩)⟩, ?_, hx, hd.2.2⟩
    unfold isEnd
    dsimp only
    rw [decide_eq_false (p := t = 47) (by omega), Bool.false_and, Bool.and_false]
  rw [if_neg k8, ec, Option.bind_some, ea, Option.bind_some]
  by_cases k4 : 8 + k = 12
  · rw [if_pos k4]
    refine ⟨⟨dd, 8 + k, c, a, 0, ⟨#[]⟩⟩, rfl, ⟨hd.1, hd.2.1, hn1, .inl ⟨?_, ?_, c0, ?_, a0, ?_, ?_, ?_, fun _ => rfl, rfl⟩⟩, ?_, hn2, hd.2.2⟩
    all_goals try (dsimp only; omega)
    unfold isEnd
    dsimp only
    rw [decide_eq_false (by omega), Bool.false_and]
  rw [if_neg k4]
  by_cases k5 : 8 + k = 13
  · rw [if_pos k5]
    refine ⟨⟨dd, 8 + k, c, a, 0, ⟨#[]⟩⟩, rfl, ⟨hd.1, hd.2.1, hn1, .inl ⟨?_, ?_, c0, ?_, a0, ?_, ?_, ?_, fun _ => rfl, rfl⟩⟩, ?_, hn2, hd.2.2⟩
    all_goals try (dsimp only; omega)
    unfold isEnd
    dsimp only
    rw [decide_eq_false (by omega), Bool.false_and]
  rw [if_neg k5, eb, Option.bind_some]
  refine ⟨⟨dd, 8 + k, c, a, b, ⟨#[]⟩⟩, rfl, ⟨hd.1, hd.2.1, hn1, .inl ⟨?_, ?_, c0, ?_, a0, ?_, b0, ?_, ?_, rfl⟩⟩, ?_, hn2, hd.2.2⟩
  all_goals try (dsimp only; omega)
  unfold isEnd
  dsimp only
  rw [decide_eq_false (by omega), Bool.false_and]
theorem end_f (d : Int) : partitalaw16_End.f d = some ((endM d).f0, (endM d).f1, (endM d).f2, (endM d).f3, (endM d).f4, (endM d).f5) := rfl
section
variable (L : List (List Msg)) (a0 a1 f d : Int)
theorem file_l1 (hL : Raws L) (i : Nat) (hi : i < L.length) (acc : List (List Msg)) : ∀ (j n : Nat) (x : List Msg), n + j = 12 → x.length = n → (∀ m ∈ x, GM m) →
    ∃ x' : List Msg, x'.length ≤ 12 ∧ (∀ m ∈ x', GM m) ∧ ∀ r, Ev (fun k => partitalaw16_File.j3 k (i : Int) x' a0 a1 L f d acc) r → Ev (fun k => partitalaw16_File.l1 k (i : Int) x (n : Int) a0 a1 L f d acc) r
  | 0, n, x, hn, hx, hg => by
    refine ⟨x, by omega, hg, fun r h => ?_⟩
    refine Ev.step (fun k => by rw [partitalaw16_File.l1]) ?_
    refine Ev.yes (by omega) (Ev.yes (by omega) ?_)
    by_cases c : (n : Int) < ((rd_L3 L (i : Int)).length : Int)
    · exact Ev.yes c (Ev.no (by omega) h)
    · exact Ev.no c h
  | j + 1, n, x, hn, hx, hg => by
    by_cases c : (n : Int) < ((rd_L3 L (i : Int)).length : Int)
    · have hm : Raw (rd_T28 (rd_L3 L (i : Int)) (n : Int)) := by
        refine hL _ (rdL_mem L i hi) _ ?_
        unfold rd_T28
        rw [Int.toNat_natCast, List.getD_eq_getElem?_getD, List.getElem?_eq_getElem (by omega)]
        exact List.getElem_mem (by omega)
      obtain ⟨y, hy, hgy⟩ := message_f hm
      obtain ⟨x', h1, h2, h3⟩ := file_l1 hL i hi acc j (n + 1) (x ++ [y]) (by omega) (by rw [List.length_append, hx]; rfl) (fun m h => by
        rcases List.mem_append.1 h with h | h
        · exact hg m h
        · rw [List.mem_singleton.1 h]; exact hgy)
      refine ⟨x', h1, h2, fun r h => ?_⟩
      have h4 := h3 r h
      refine Ev.step (fun k => by rw [partitalaw16_File.l1]) ?_
      refine Ev.yes (by omega) (Ev.yes (by omega) (Ev.yes c (Ev.yes (by omega) (Ev.yes (by omega) (Ev.bind (Ev.eq hy) (Ev.yes (by omega) ?_))))))
      have e1 : wrap64 ((n : Int) + 1) = ((n + 1 : Nat) : Int) := by rw [w64 (by omega) (by omega)]; omega
      rw [e1]
      exact h4
    · refine ⟨x, by omega, hg, fun r h => ?_⟩
      refine Ev.step (fun k => by rw [partitalaw16_File.l1]) ?_
      exact Ev.yes (by omega) (Ev.yes (by omega) (Ev.no c h))
theorem file_j1 (acc : List (List Msg)) (x4 : Int) (hf : f = 0 ∨ f = 1) (hd : 1 ≤ d ∧ d ≤ 32767) (hl : acc.length ≤ 5) (h0 : f = 0 → acc.length ≤ 1) (hg : ∀ l ∈ acc, GT l) :
    ∃ ts, Ev (fun k => partitalaw16_File.j1 k x4 false a0 a1 L f d acc) (f, d, ts) ∧ GF f d ts := by
  by_cases c : (acc.length : Int) = 0
  · refine ⟨[[endM 0]], ?_, hf, hd.1, hd.2, by decide, by decide, fun _ => rfl, fun l hl => ?_⟩
    · refine Ev.step (fun k => by rw [partitalaw16_File.j1]) ?_
      exact Ev.no (by decide) (Ev.yes c (Ev.bind (Ev.eq (end_f 0)) (Ev.now _)))
    · rw [List.mem_singleton.1 hl]
      exact ⟨[], rfl, by decide, fun m hm => by cases hm⟩
  · refine ⟨acc, ?_, hf, hd.1, hd.2, by omega, hl, fun h => by have := h0 h; omega, hg⟩
    refine Ev.step (fun k => by rw [partitalaw16_File.j1]) ?_
    exact Ev.no (by decide) (Ev.no c (Ev.now _))
theorem file_l0 (hL : Raws L) (hf : f = 0 ∨ f = 1) (hd : 1 ≤ d ∧ d ≤ 32767) : ∀ (j i : Nat) (acc : List (List Msg)), i + j = 5 → acc.length = i → (f = 0 → i ≤ 1) → (∀ l ∈ acc, GT l) →
    ∃ ts, Ev (fun k => partitalaw16_File.l0 k (i : Int) a0 a1 L f d acc) (f, d, ts) ∧ GF f d ts
  | j, i, acc, hi, hacc, h0, hg => by
    obtain ⟨ts0, e0, g0⟩ := file_j1 L a0 a1 f d acc (i : Int) hf hd (by omega) (fun h => by have := h0 h; omega) hg
    by_cases c1 : (i : Int) < (L.length : Int)
    · by_cases c2 : (i : Int) < 5
      · by_cases c3 : i < 1 ∨ f = 1
        ·
          cases j with
          | zero => omega
          | succ j =>
            obtain ⟨x', hx1, hx2, hx3⟩ := file_l1 L a0 a1 f d hL i (by omega) acc 12 0 [] rfl rfl (fun m hm => by cases hm)
            obtain ⟨ts, e1, g1⟩ := file_l0 hL hf hd j (i + 1) (acc ++ [x' ++ [endM (x'.length : Int)]]) (by omega) (by rw [List.length_append, hacc]; rfl) (fun h => by rcases c3 with c3 | c3 <;> omega) (fun l hl => by
              rcases List.mem_append.1 hl with hl | hl
              · exact hg l hl
              · rw [List.mem_singleton.1 hl]; exact ⟨x', rfl, hx1, hx2⟩)
            refine ⟨ts, ?_, g1⟩
            have e3 : Ev (fun k => partitalaw16_File.j3 k (i : Int) x' a0 a1 L f d acc) (f, d, ts) := by
              refine Ev.step (fun k => by rw [partitalaw16_File.j3]) ?_
              refine Ev.bind (Ev.eq (end_f _)) (Ev.yes (by omega) (Ev.yes (by omega) ?_))
              have ew : wrap64 ((i : Int) + 1) = ((i + 1 : Nat) : Int) := by rw [w64 (by omega) (by omega)]; omega
              rw [ew]
              exact e1
            have e4 : Ev (fun k => partitalaw16_File.j1 k (i : Int) true a0 a1 L f d acc) (f, d, ts) := by
              refine Ev.step (fun k => by rw [partitalaw16_File.j1]) ?_
              exact Ev.yes rfl (hx3 _ e3)
            refine Ev.step (fun k => by rw [partitalaw16_File.l0]) ?_
            refine Ev.yes c1 (Ev.yes c2 ?_)
            by_cases c4 : (i : Int) < 1
            · exact Ev.yes c4 e4
            · have hf1 : f = 1 := by rcases c3 with c3 | c3 <;> omega
              refine Ev.no c4 ?_
              have : (f == 1) = true := beq_iff_eq.mpr hf1
              rw [this]
              exact e4
        · refine ⟨ts0, ?_, g0⟩
          refine Ev.step (fun k => by rw [partitalaw16_File.l0]) ?_
          refine Ev.yes c1 (Ev.yes c2 (Ev.no (by omega) ?_))
          have : (f == 1) = false := beq_eq_false_iff_ne.mpr (by omega)
          rw [this]
          exact e0
      · refine ⟨ts0, ?_, g0⟩
        refine Ev.step (fun k => by rw [partitalaw16_File.l0]) ?_
        exact Ev.yes c1 (Ev.no c2 e0)
    · refine ⟨ts0, ?_, g0⟩
      refine Ev.step (fun k => by rw [partitalaw16_File.l0]) ?_
      exact Ev.no c1 e0
end
theorem file_ev {f d : Int} {L : List (List Msg)} (hf : I64 f) (hd : I64 d) (hL : Raws L) : ∃ f' d' ts, Ev (fun k => partitalaw16_File.f k f d L) (f', d', ts) ∧ GF f' d' ts := by
  obtain ⟨p, ep, p0, p1⟩ := pick_f hf (n := 2) (by decide)
  obtain ⟨q, eq, q0, q1⟩ := pick_f hd (n := 32767) (by decide)
  have ew : wrap64 (1 + q) = 1 + q := w64 (by omega) (by omega)
  obtain ⟨ts, e, g⟩ := file_l0 L f d p (1 + q) hL (by omega) ⟨by omega, by omega⟩ 5 0 [] rfl rfl (fun _ => by decide) (fun l hl => by cases hl)
  refine ⟨p, 1 + q, ts, ?_, g⟩
  refine Ev.bind (Ev.eq ep) (Ev.bind (Ev.eq eq) ?_)
  rw [ew]
  exact e
end Go.Proofs.Ytdmnknhlibaaoaa.Z
namespace Go.Proofs.Ytdmnknhlibaaoaa.M
open Go.RowKit Go.Proofs.YtdmnknhlibaaoaaW.PrintWords Go.Proofs.YtdmnknhlibaaoaaW.PrintLast Go.Proofs.YtdmnknhlibaaoaaW.PrintMore
set_option linter.unusedVariables false
set_option linter.unusedSimpArgs false
def IsS60 (w0 W : World) (g : Nat) (f0 : ByteArray) (f1 : Int) : Prop := W.heap[g]? = some (.cells #[.string f0, .int .i64 f1] 60 (0, 0)) ∧ w0.heap.size ≤ g
theorem IsS60.grown {w0 W : World} {g : Nat} {f0 : ByteArray} {f1 : Int} {W1 : World} {row : Option Nat} (h : IsS60 w0 W g f0 f1) (hw : W.grownBy W1 row) (hne : some g ≠ row) : IsS60 w0 W1 g f0 f1 := by
  obtain ⟨hb, hg⟩ := h
  exact ⟨blk_grown hb hw hne, hg⟩
theorem IsS60.kept {w0 W : World} {g : Nat} {f0 : ByteArray} {f1 : Int} {W1 : World} {S : Nat → Prop} (h : IsS60 w0 W g f0 f1) (hk : Kept W W1 S) (hne : ¬ S g) : IsS60 w0 W1 g f0 f1 := by
  obtain ⟨hb, hg⟩ := h
  exact ⟨blk_kept hb hk hne, hg⟩
theorem IsS60.below {w0 W : World} {g : Nat} {f0 : ByteArray} {f1 : Int} {W1 : World} (h : IsS60 w0 W g f0 f1) (hw : Below W.heap.size W W1) : IsS60 w0 W1 g f0 f1 := h.grown (grown_of_below hw none) (by simp)
theorem IsS60.alloc {w0 W : World} {g : Nat} {f0 : ByteArray} {f1 : Int} (h : IsS60 w0 W g f0 f1) (o : Obj) : IsS60 w0 (W.alloc o) g f0 f1 := h.below (below_alloc (Below.refl _ _) o)
theorem IsS60.drewN {w0 W : World} {g : Nat} {f0 : ByteArray} {f1 : Int} (h : IsS60 w0 W g f0 f1) (m : Nat) : IsS60 w0 (W.drewN m) g f0 f1 := h
theorem IsS60.drew {w0 W : World} {g : Nat} {f0 : ByteArray} {f1 : Int} (h : IsS60 w0 W g f0 f1) : IsS60 w0 W.drew g f0 f1 := h
theorem IsS60.at_ {w0 W : World} {g : Nat} {f0 : ByteArray} {f1 : Int} {w' : World} {m : Nat} (hq : W.drewN m = w') (h : IsS60 w0 W g f0 f1) : IsS60 w0 w' g f0 f1 := by subst hq; exact IsS60.drewN h m
theorem IsS60.apart {w0 W : World} {g : Nat} {f0 : ByteArray} {f1 : Int} {α : Type} {d : Kd α} {e : Nat} {base : Nat} {ok : Nat → Prop} {v : Value} {xs : List α} (h : IsS60 w0 W g f0 f1) (ho : d.R e W base ok v xs) (ht : ∀ q, q ∈ e :: d.E → q ≠ 60) : d.R e W base (fun k => ok k ∧ k ≠ g) v xs := by
  obtain ⟨hb, hg⟩ := h
  exact Kd.R_types ho hb ht
theorem IsS60.own_ne {w0 W : World} {g : Nat} {f0 : ByteArray} {f1 : Int} {α : Type} {d : Kd α} {e : Nat} {base : Nat} {ok : Nat → Prop} {v : Value} {xs : List α} (h : IsS60 w0 W g f0 f1) (ho : d.R e W base ok v xs) (ht : e ≠ 60) : some g ≠ v.ownBlock := by
  obtain ⟨hb, hg⟩ := h
  exact Kd.R_ne ho hb ht
theorem IsS60.lt {w0 W : World} {g : Nat} {f0 : ByteArray} {f1 : Int} (h : IsS60 w0 W g f0 f1) : g < W.heap.size := by
  obtain ⟨hb, hg⟩ := h
  exact blk_lt hb
theorem IsS60.ge {w0 W : World} {g : Nat} {f0 : ByteArray} {f1 : Int} (h : IsS60 w0 W g f0 f1) : w0.heap.size ≤ g := by
  obtain ⟨hb, hg⟩ := h
  exact hg
theorem IsS60.ne_blk {w0 W : World} {g : Nat} {f0 : ByteArray} {f1 : Int} {a : Nat} {cs : Array Value} {t : TypeId} {fr : Nat × Nat} (h : IsS60 w0 W g f0 f1) (hb2 : W.heap[a]? = some (.cells cs t fr)) (ht : t ≠ 60) : g ≠ a := by
  obtain ⟨hb, hg⟩ := h
  rintro rfl
  rw [hb] at hb2
  injection hb2 with hb2
  injection hb2 with _ ht2
  exact ht ht2.symm
theorem IsS60.far {w0 W : World} {g : Nat} {f0 : ByteArray} {f1 : Int} {p : Addr} (h : IsS60 w0 W g f0 f1) (hne : g ≠ p.block) (u : Value) : IsS60 w0 (W.setCell p u) g f0 f1 := by
  obtain ⟨hb, hg⟩ := h
  exact ⟨blk_far hb hne u, hg⟩
theorem cellS60_0 {W : World} {g : Nat} {f0 : ByteArray} {f1 : Int} (h : W.heap[g]? = some (.cells #[.string f0, .int .i64 f1] 60 (0, 0))) : W.cell? ⟨g, 0, none⟩ = some (.string f0) := (blk_cell h 0).trans rfl
theorem IsS60.set_0 {w0 W : World} {g : Nat} {f0 : ByteArray} {f1 : Int} (h : IsS60 w0 W g f0 f1) (x : ByteArray) : IsS60 w0 (W.setCell ⟨g, 0, none⟩ (.string x)) g x f1 := by
  obtain ⟨hb, hg⟩ := h
  exact ⟨by simpa using blk_set hb 0 (.string x), hg⟩
theorem cellS60_1 {W : World} {g : Nat} {f0 : ByteArray} {f1 : Int} (h : W.heap[g]? = some (.cells #[.string f0, .int .i64 f1] 60 (0, 0))) : W.cell? ⟨g, 1, none⟩ = some (.int .i64 f1) := (blk_cell h 1).trans rfl
theorem IsS60.set_1 {w0 W : World} {g : Nat} {f0 : ByteArray} {f1 : Int} (h : IsS60 w0 W g f0 f1) (x : Int) : IsS60 w0 (W.setCell ⟨g, 1, none⟩ (.int .i64 x)) g f0 x := by
  obtain ⟨hb, hg⟩ := h
  exact ⟨by simpa using blk_set hb 1 (.int .i64 x), hg⟩
theorem IsS60.new (w0 W : World) (f0 : ByteArray) (f1 : Int) (hB : Below w0.heap.size w0 W) : IsS60 w0 (W.alloc (.cells #[.string f0, .int .i64 f1] 60)) W.heap.size f0 f1 := ⟨by simpa using heap_alloc_new W _, hB.size⟩
end Go.Proofs.Ytdmnknhlibaaoaa.M
namespace Go.Proofs.Ytdmnknhlibaaoaa.M
open Go.RowKit Go.Proofs.YtdmnknhlibaaoaaW.PrintWords Go.Proofs.YtdmnknhlibaaoaaW.PrintLast Go.Proofs.YtdmnknhlibaaoaaW.PrintMore
set_option linter.unusedVariables false
set_option linter.unusedSimpArgs false
def gone (at_ e : Int) : Ending := .panicked [{ v := .iface 57 (.agg #[.int .i64 at_, .int .i64 e]), recovered := false }]
theorem fail_calls (at_ e : Int) (w : World) : Calls Try.prog 34 #[.int .i64 at_, .int .i64 e] w fun x w' => x = gone at_ e ∧ w' = w := by
  go_enter Try.func34, Try.ntmps34
  go_wp2
  exact ⟨rfl, rfl, rfl⟩
set_option maxHeartbeats 8000000 in
set_option maxRecDepth 100000 in
theorem take_calls (g : Nat) (s : ByteArray) (p n : Int) (w0 w : World) (hI : IsS60 w0 w g s p) (hB : Below w0.heap.size w0 w) (hp : 0 ≤ p ∧ p ≤ s.size) (hs : s.size ≤ 100000) (hn : 0 ≤ n ∧ n ≤ 4294967296) :
    Calls Try.prog 55 #[.pointer (some ⟨g, 0, none⟩), .int .i64 n] w fun e w' => Below w0.heap.size w0 w' ∧ KeepBut w w' g none ∧
      ((n > s.size - p ∧ e = gone s.size 152) ∨ (n ≤ s.size - p ∧ e = .returned (.string (s.extract p.toNat (p + n).toNat)) ∧ IsS60 w0 w' g s (p + n))) := by
  have c0 := cellS60_0 hI.1
  have c1 := cellS60_1 hI.1
  have f1 : w.frozen? ⟨g, 1, none⟩ = false := blk_frozen hI.1 1
  have hw : wrap64 ((s.size : Int) - p) = (s.size : Int) - p := by unfold wrap64; omega
  by_cases h : n > (s.size : Int) - p
  · have hd : decide (n > (s.size : Int) - p) = true := decide_eq_true h
    go_enter Try.func55, Try.ntmps55
    go_wp2
    go_quiet (fail)
    go_wp2_with (go_at_call 34; refine (fail_calls _ _ _).mono ?_; rintro e w' ⟨he, rfl⟩; simp only [gone] at he; subst he)
    exact ⟨rfl, pw_below_drewN hB _, KeepBut.of_below (pw_below_drewN (Below.refl _ _) _) _ _, .inl ⟨h, rfl⟩⟩
  · have hd : decide (n > (s.size : Int) - p) = false := decide_eq_false h
    have hw2 : wrap64 (p + n) = p + n := by unfold wrap64; omega
    have hw3 : wrap64 (p + n - n) = p := by unfold wrap64; omega
    have d1 : decide (0 ≤ p) = true := decide_eq_true (by omega)
    have d2 : decide (p ≤ p + n) = true := decide_eq_true (by omega)
    have d3 : decide (p + n ≤ (s.size : Int)) = true := decide_eq_true (by omega)
    go_enter Try.func55, Try.ntmps55
    go_wp2
    go_quiet (fail)
    go_wp2
    go_quiet (fail)
    go_wp2
    go_ret
    exact ⟨pw_below_drewN (below_set (pw_below_drewN hB _) hI.2) _, keep_drewN ((KeepBut.of_below (pw_below_drewN (Below.refl _ _) _) _ _).set_ _ _) _, .inr ⟨by omega, rfl, IsS60.drewN ((IsS60.drewN hI _).set_1 _) _⟩⟩
end Go.Proofs.Ytdmnknhlibaaoaa.M
namespace Go.Proofs.Ytdmnknhlibaaoaa.M
open Go.RowKit Go.Proofs.YtdmnknhlibaaoaaW.PrintWords Go.Proofs.YtdmnknhlibaaoaaW.PrintLast Go.Proofs.YtdmnknhlibaaoaaW.PrintMore
set_option linter.unusedVariables false
set_option linter.unusedSimpArgs false
def ByteEnd (s : ByteArray) (p : Int) (q : Bool) (g : Nat) (w0 w : World) (e : Ending) (w' : World) : Prop := Below w0.heap.size w0 w' ∧ KeepBut w w' g none ∧
  ((¬ p < s.size ∧ e = gone s.size 152) ∨ (p < s.size ∧ q = false ∧ e = gone p 160) ∨ (p < s.size ∧ q = true ∧ e = .returned (.int .i64 (bt s p)) ∧ IsS60 w0 w' g s (p + 1)))
set_option maxHeartbeats 8000000 in
set_option maxRecDepth 100000 in
theorem byte_49 (caps : Array Value) (q : Bool) (g : Nat) (s : ByteArray) (p : Int) (w0 w : World) (hI : IsS60 w0 w g s p) (hB : Below w0.heap.size w0 w) (hp : 0 ≤ p ∧ p ≤ s.size) (hs : s.size ≤ 100000)
    (hK : p < s.size → ∀ w1 : World, w1.heap = w.heap → Calls Try.prog 49 (#[.int .u8 (bt s p)] ++ caps) w1 fun e w' => e = .returned (.bool q) ∧ w' = w1) :
    Calls Try.prog 48 #[.pointer (some ⟨g, 0, none⟩), .func (.func 49) #[] caps] w (ByteEnd s p q g w0 w) := by
  have c0 := cellS60_0 hI.1
  have c1 := cellS60_1 hI.1
  have f1 : w.frozen? ⟨g, 1, none⟩ = false := blk_frozen hI.1 1
  by_cases h : p < (s.size : Int)
  · have hd : decide (p ≥ (s.size : Int)) = false := decide_eq_false (by omega)
    have hw : wrap64 (p + 1) = p + 1 := by unfold wrap64; omega
    have p1 : 0 ≤ p := hp.1
    have q1 : p < (s.size : Int) := h
    have hx1 := bt_at s p
    have hK1 := fun n => hK h (w.drewN n) rfl
    have hb0 := bt_range s p
    have hbw : wrap64 (bt s p) = bt s p := by unfold wrap64; omega
    replace p1 := eq_true p1
    replace q1 := eq_true q1
    have HI := Aside0.mk hI
    have HB := Aside0.mk hB
    clear hI hB
    go_enter Try.func48, Try.ntmps48
    go_wp2
    go_quiet (fail)
    go_wp2
    go_quiet (fail)
    cases q with
    | true =>
      go_wp2_with (go_at_call 49; refine (hK1 _).mono ?_; rintro e w' ⟨rfl, rfl⟩)
      go_ret
      unfold ByteEnd
      exact ⟨below_set (pw_below_drewN HB.out _) HI.out.2, KeepBut.set_ (keep_drewN (KeepBut.refl _ _ _) _) _ _, .inr (.inr ⟨h, rfl, rfl, (IsS60.drewN HI.out _).set_1 _⟩)⟩
    | false =>
      go_wp2_with (first | (go_at_call 49; refine (hK1 _).mono ?_; rintro e w' ⟨rfl, rfl⟩) | (go_at_call 34; refine (fail_calls _ _ _).mono ?_; rintro e w' ⟨he, rfl⟩; simp only [gone] at he; subst he))
      unfold ByteEnd
      exact ⟨rfl, pw_below_drewN HB.out _, keep_drewN (KeepBut.refl _ _ _) _, .inr (.inl ⟨h, rfl, rfl⟩)⟩
  · have hd : decide (p ≥ (s.size : Int)) = true := decide_eq_true (by omega)
    go_enter Try.func48, Try.ntmps48
    go_wp2
    go_quiet (fail)
    go_wp2_with (go_at_call 34; refine (fail_calls _ _ _).mono ?_; rintro e w' ⟨he, rfl⟩; simp only [gone] at he; subst he)
    unfold ByteEnd
    exact ⟨rfl, pw_below_drewN hB _, keep_drewN (KeepBut.refl _ _ _) _, .inl ⟨by omega, rfl⟩⟩
set_option maxHeartbeats 8000000 in
set_option maxRecDepth 100000 in
theorem byte_50 (caps : Array Value) (q : Bool) (g : Nat) (s : ByteArray) (p : Int) (w0 w : World) (hI : IsS60 w0 w g s p) (hB : Below w0.heap.size w0 w) (hp : 0 ≤ p ∧ p ≤ s.size) (hs : s.size ≤ 100000)
    (hK : p < s.size → ∀ w1 : World, w1.heap = w.heap → Calls Try.prog 50 (#[.int .u8 (bt s p)] ++ caps) w1 fun e w' => e = .returned (.bool q) ∧ w' = w1) :
    Calls Try.prog 48 #[.pointer (some ⟨g, 0, none⟩), .func (.func 50) #[] caps] w (ByteEnd s p q g w0 w) := by
  have c0 := cellS60_0 hI.1
  have c1 := cellS60_1 hI.1
  have f1 : w.frozen? ⟨g, 1, none⟩ = false := blk_frozen hI.1 1
  by_cases h : p < (s.size : Int)
  · have hd : decide (p ≥ (s.size : Int)) = false := decide_eq_false (by omega)
    have hw : wrap64 (p + 1) = p + 1 := by unfold wrap64; omega
    have p1 : 0 ≤ p := hp.1
    have q1 : p < (s.size : Int) := h
    have hx1 := bt_at s p
    have hK1 := fun n => hK h (w.drewN n) rfl
    have hb0 := bt_range s p
    have hbw : wrap64 (bt s p) = bt s p := by unfold wrap64; omega
    replace p1 := eq_true p1
    replace q1 := eq_true q1
    have HI := Aside0.mk hI
    have HB := Aside0.mk hB
    clear hI hB
    go_enter Try.func48, Try.ntmps48
    go_wp2
    go_quiet (fail)
    go_wp2
    go_quiet (fail)
    cases q with
    | true =>
      go_wp2_with (go_at_call 50; refine (hK1 _).mono ?_; rintro e w' ⟨rfl, rfl⟩)
      go_ret
      unfold ByteEnd
      exact ⟨below_set (pw_below_drewN HB.out _) HI.out.2, KeepBut.set_ (keep_drewN (KeepBut.refl _ _ _) _) _ _, .inr (.inr ⟨h, rfl, rfl, (IsS60.drewN HI.out _).set_1 _⟩)⟩
    | false =>
      go_wp2_with (first | (go_at_call 50; refine (hK1 _).mono ?_; rintro e w' ⟨rfl, rfl⟩) | (go_at_call 34; refine (fail_calls _ _ _).mono ?_; rintro e w' ⟨he, rfl⟩; simp only [gone] at he; subst he))
      unfold ByteEnd
      exact ⟨rfl, pw_below_drewN HB.out _, keep_drewN (KeepBut.refl _ _ _) _, .inr (.inl ⟨h, rfl, rfl⟩)⟩
  · have hd : decide (p ≥ (s.size : Int)) = true := decide_eq_true (by omega)
    go_enter Try.func48, Try.ntmps48
    go_wp2
    go_quiet (fail)
    go_wp2_with (go_at_call 34; refine (fail_calls _ _ _).mono ?_; rintro e w' ⟨he, rfl⟩; simp only [gone] at he; subst he)
    unfold ByteEnd
    exact ⟨rfl, pw_below_drewN hB _, keep_drewN (KeepBut.refl _ _ _) _, .inl ⟨by omega, rfl⟩⟩
set_option maxHeartbeats 8000000 in
set_option maxRecDepth 100000 in
theorem byte_51 (caps : Array Value) (q : Bool) (g : Nat) (s : ByteArray) (p : Int) (w0 w : World) (hI : IsS60 w0 w g s p) (hB : Below w0.heap.size w0 w) (hp : 0 ≤ p ∧ p ≤ s.size) (hs : s.size ≤ 100000)
    (hK : p < s.size → ∀ w1 : World, w1.heap = w.heap → Calls Try.prog 51 (#[.int .u8 (bt s p)] ++ caps) w1 fun e w' => e = .returned (.bool q) ∧ w' = w1) :
    Calls Try.prog 48 #[.pointer (some ⟨g, 0, none⟩), .func (.func 51) #[] caps] w (ByteEnd s p q g w0 w) := by
  have c0 := cellS60_0 hI.1
  have c1 := cellS60_1 hI.1
  have f1 : w.frozen? ⟨g, 1, none⟩ = false := blk_frozen hI.1 1
  by_cases h : p < (s.size : Int)
  · have hd : decide (p ≥ (s.size : Int)) = false := decide_eq_false (by omega)
    have hw : wrap64 (p + 1) = p + 1 := by unfold wrap64; omega
    have p1 : 0 ≤ p := hp.1
    have q1 : p < (s.size : Int) := h
    have hx1 := bt_at s p
    have hK1 := fun n => hK h (w.drewN n) rfl
    have hb0 := bt_range s p
    have hbw : wrap64 (bt s p) = bt s p := by unfold wrap64; omega
    replace p1 := eq_true p1
    replace q1 := eq_true q1
    have HI := Aside0.mk hI
    have HB := Aside0.mk hB
    clear hI hB
    go_enter Try.func48, Try.ntmps48
    go_wp2
    go_quiet (fail)
    go_wp2
    go_quiet (fail)
    cases q with
    | true =>
      go_wp2_with (go_at_call 51; refine (hK1 _).mono ?_; rintro e w' ⟨rfl, rfl⟩)
      go_ret
      unfold ByteEnd
      exact ⟨below_set (pw_below_drewN HB.out _) HI.out.2, KeepBut.set_ (keep_drewN (KeepBut.refl _ _ _) _) _ _, .inr (.inr ⟨h, rfl, rfl, (IsS60.drewN HI.out _).set_1 _⟩)⟩
    | false =>
      go_wp2_with (first | (go_at_call 51; refine (hK1 _).mono ?_; rintro e w' ⟨rfl, rfl⟩) | (go_at_call 34; refine (fail_calls _ _ _).mono ?_; rintro e w' ⟨he, rfl⟩; simp only [gone] at he; subst he))
      unfold ByteEnd
      exact ⟨rfl, pw_below_drewN HB.out _, keep_drewN (KeepBut.refl _ _ _) _, .inr (.inl ⟨h, rfl, rfl⟩)⟩
  · have hd : decide (p ≥ (s.size : Int)) = true := decide_eq_true (by omega)
    go_enter Try.func48, Try.ntmps48
    go_wp2
    go_quiet (fail)
    go_wp2_with (go_at_call 34; refine (fail_calls _ _ _).mono ?_; rintro e w' ⟨he, rfl⟩; simp only [gone] at he; subst he)
    unfold ByteEnd
    exact ⟨rfl, pw_below_drewN hB _, keep_drewN (KeepBut.refl _ _ _) _, .inl ⟨by omega, rfl⟩⟩
set_option maxHeartbeats 8000000 in
set_option maxRecDepth 100000 in
theorem byte_52 (caps : Array Value) (q : Bool) (g : Nat) (s : ByteArray) (p : Int) (w0 w : World) (hI : IsS60 w0 w g s p) (hB : Below w0.heap.size w0 w) (hp : 0 ≤ p ∧ p ≤ s.size) (hs : s.size ≤ 100000)
    (hK : p < s.size → ∀ w1 : World, w1.heap = w.heap → Calls Try.prog 52 (#[.int .u8 (bt s p)] ++ caps) w1 fun e w' => e = .returned (.bool q) ∧ w' = w1) :
    Calls Try.prog 48 #[.pointer (some ⟨g, 0, none⟩), .func (.func 52) #[] caps] w (ByteEnd s p q g w0 w) := by
  have c0 := cellS60_0 hI.1
  have c1 := cellS60_1 hI.1
  have f1 : w.frozen? ⟨g, 1, none⟩ = false := blk_frozen hI.1 1
  by_cases h : p < (s.size : Int)
  · have hd : decide (p ≥ (s.size : Int)) = false := decide_eq_false (by omega)
    have hw : wrap64 (p + 1) = p + 1 := by unfold wrap64; omega
    have p1 : 0 ≤ p := hp.1
    have q1 : p < (s.size : Int) := h
    have hx1 := bt_at s p
    have hK1 := fun n => hK h (w.drewN n) rfl
    have hb0 := bt_range s p
    have hbw : wrap64 (bt s p) = bt s p := by unfold wrap64; omega
    replace p1 := eq_true p1
    replace q1 := eq_true q1
    have HI := Aside0.mk hI
    have HB := Aside0.mk hB
    clear hI hB
    go_enter Try.func48, Try.ntmps48
    go_wp2
    go_quiet (fail)
    go_wp2
    go_quiet (fail)
    cases q with
    | true =>
      go_wp2_with (go_at_call 52; refine (hK1 _).mono ?_; rintro e w' ⟨rfl, rfl⟩)
      go_ret
      unfold ByteEnd
      exact ⟨below_set (pw_below_drewN HB.out _) HI.out.2, KeepBut.set_ (keep_drewN (KeepBut.refl _ _ _) _) _ _, .inr (.inr ⟨h, rfl, rfl, (IsS60.drewN HI.out _).set_1 _⟩)⟩
    | false =>
      go_wp2_with (first | (go_at_call 52; refine (hK1 _).mono ?_; rintro e w' ⟨rfl, rfl⟩) | (go_at_call 34; refine (fail_calls _ _ _).mono ?_; rintro e w' ⟨he, rfl⟩; simp only [gone] at he; subst he))
      unfold ByteEnd
      exact ⟨rfl, pw_below_drewN HB.out _, keep_drewN (KeepBut.refl _ _ _) _, .inr (.inl ⟨h, rfl, rfl⟩)⟩
  · have hd : decide (p ≥ (s.size : Int)) = true := decide_eq_true (by omega)
    go_enter Try.func48, Try.ntmps48
    go_wp2
    go_quiet (fail)
    go_wp2_with (go_at_call 34; refine (fail_calls _ _ _).mono ?_; rintro e w' ⟨he, rfl⟩; simp only [gone] at he; subst he)
    unfold ByteEnd
    exact ⟨rfl, pw_below_drewN hB _, keep_drewN (KeepBut.refl _ _ _) _, .inl ⟨by omega, rfl⟩⟩
set_option maxHeartbeats 8000000 in
set_option maxRecDepth 100000 in
theorem byte_53 (caps : Array Value) (q : Bool) (g : Nat) (s : ByteArray) (p : Int) (w0 w : World) (hI : IsS60 w0 w g s p) (hB : Below w0.heap.size w0 w) (hp : 0 ≤ p ∧ p ≤ s.size) (hs : s.size ≤ 100000)
    (hK : p < s.size → ∀ w1 : World, w1.heap = w.heap → Calls Try.prog 53 (#[.int .u8 (bt s p)] ++ caps) w1 fun e w' => e = .returned (.bool q) ∧ w' = w1) :
    Calls Try.prog 48 #[.pointer (some ⟨g, 0, none⟩), .func (.func 53) #[] caps] w (ByteEnd s p q g w0 w) := by
  have c0 := cellS60_0 hI.1
  have c1 := cellS60_1 hI.1
  have f1 : w.frozen? ⟨g, 1, none⟩ = false := blk_frozen hI.1 1
  by_cases h : p < (s.size : Int)
  · have hd : decide (p ≥ (s.size : Int)) = false := decide_eq_false (by omega)
    have hw : wrap64 (p + 1) = p + 1 := by unfold wrap64; omega
    have p1 : 0 ≤ p := hp.1
    have q1 : p < (s.size : Int) := h
    have hx1 := bt_at s p
    have hK1 := fun n => hK h (w.drewN n) rfl
    have hb0 := bt_range s p
    have hbw : wrap64 (bt s p) = bt s p := by unfold wrap64; omega
    replace p1 := eq_true p1
    replace q1 := eq_true q1
    have HI := Aside0.mk hI
    have HB := Aside0.mk hB
    clear hI hB
    go_enter Try.func48, Try.ntmps48
    go_wp2
    go_quiet (fail)
    go_wp2
    go_quiet (fail)
    cases q with
    | true =>
      go_wp2_with (go_at_call 53; refine (hK1 _).mono ?_; rintro e w' ⟨rfl, rfl⟩)
      go_ret
      unfold ByteEnd
      exact ⟨below_set (pw_below_drewN HB.out _) HI.out.2, KeepBut.set_ (keep_drewN (KeepBut.refl _ _ _) _) _ _, .inr (.inr ⟨h, rfl, rfl, (IsS60.drewN HI.out _).set_1 _⟩)⟩
    | false =>
      go_wp2_with (first | (go_at_call 53; refine (hK1 _).mono ?_; rintro e w' ⟨rfl, rfl⟩) | (go_at_call 34; refine (fail_calls _ _ _).mono ?_; rintro e w' ⟨he, rfl⟩; simp only [gone] at he; subst he))
      unfold ByteEnd
      exact ⟨rfl, pw_below_drewN HB.out _, keep_drewN (KeepBut.refl _ _ _) _, .inr (.inl ⟨h, rfl, rfl⟩)⟩
  · have hd : decide (p ≥ (s.size : Int)) = true := decide_eq_true (by omega)
    go_enter Try.func48, Try.ntmps48
    go_wp2
    go_quiet (fail)
    go_wp2_with (go_at_call 34; refine (fail_calls _ _ _).mono ?_; rintro e w' ⟨he, rfl⟩; simp only [gone] at he; subst he)
    unfold ByteEnd
    exact ⟨rfl, pw_below_drewN hB _, keep_drewN (KeepBut.refl _ _ _) _, .inl ⟨by omega, rfl⟩⟩
set_option maxHeartbeats 8000000 in
set_option maxRecDepth 100000 in
theorem byte_54 (caps : Array Value) (q : Bool) (g : Nat) (s : ByteArray) (p : Int) (w0 w : World) (hI : IsS60 w0 w g s p) (hB : Below w0.heap.size w0 w) (hp : 0 ≤ p ∧ p ≤ s.size) (hs : s.size ≤ 100000)
    (hK : p < s.size → ∀ w1 : World, w1.heap = w.heap → Calls Try.prog 54 (#[.int .u8 (bt s p)] ++ caps) w1 fun e w' => e = .returned (.bool q) ∧ w' = w1) :
    Calls Try.prog 48 #[.pointer (some ⟨g, 0, none⟩), .func (.func 54) #[] caps] w (ByteEnd s p q g w0 w) := by
  have c0 := cellS60_0 hI.1
  have c1 := cellS60_1 hI.1
  have f1 : w.frozen? ⟨g, 1, none⟩ = false := blk_frozen hI.1 1
  by_cases h : p < (s.size : Int)
  · have hd : decide (p ≥ (s.size : Int)) = false := decide_eq_false (by omega)
    have hw : wrap64 (p + 1) = p + 1 := by unfold wrap64; omega
    have p1 : 0 ≤ p := hp.1
    have q1 : p < (s.size : Int) := h
    have hx1 := bt_at s p
    have hK1 := fun n => hK h (w.drewN n) rfl
    have hb0 := bt_range s p
    have hbw : wrap64 (bt s p) = bt s p := by unfold wrap64; omega
    replace p1 := eq_true p1
    replace q1 := eq_true q1
    have HI := Aside0.mk hI
    have HB := Aside0.mk hB
    clear hI hB
    go_enter Try.func48, Try.ntmps48
    go_wp2
    go_quiet (fail)
    go_wp2
    go_quiet (fail)
    cases q with
    | true =>
      go_wp2_with (go_at_call 54; refine (hK1 _).mono ?_; rintro e w' ⟨rfl, rfl⟩)
      go_ret
      unfold ByteEnd
      exact ⟨below_set (pw_below_drewN HB.out _) HI.out.2, KeepBut.set_ (keep_drewN (KeepBut.refl _ _ _) _) _ _, .inr (.inr ⟨h, rfl, rfl, (IsS60.drewN HI.out _).set_1 _⟩)⟩
    | false =>
      go_wp2_with (first | (go_at_call 54; refine (hK1 _).mono ?_; rintro e w' ⟨rfl, rfl⟩) | (go_at_call 34; refine (fail_calls _ _ _).mono ?_; rintro e w' ⟨he, rfl⟩; simp only [gone] at he; subst he))
      unfold ByteEnd
      exact ⟨rfl, pw_below_drewN HB.out _, keep_drewN (KeepBut.refl _ _ _) _, .inr (.inl ⟨h, rfl, rfl⟩)⟩
  · have hd : decide (p ≥ (s.size : Int)) = true := decide_eq_true (by omega)
    go_enter Try.func48, Try.ntmps48
    go_wp2
    go_quiet (fail)
    go_wp2_with (go_at_call 34; refine (fail_calls _ _ _).mono ?_; rintro e w' ⟨he, rfl⟩; simp only [gone] at he; subst he)
    unfold ByteEnd
    exact ⟨rfl, pw_below_drewN hB _, keep_drewN (KeepBut.refl _ _ _) _, .inl ⟨by omega, rfl⟩⟩
end Go.Proofs.Ytdmnknhlibaaoaa.M
namespace Go.Proofs.Ytdmnknhlibaaoaa.M
open Go.RowKit Go.Proofs.YtdmnknhlibaaoaaW.PrintWords Go.Proofs.YtdmnknhlibaaoaaW.PrintLast Go.Proofs.YtdmnknhlibaaoaaW.PrintMore
set_option linter.unusedVariables false
set_option linter.unusedSimpArgs false
theorem c49 (b c : Int) (gc : Nat) (w : World) (h : w.cell? ⟨gc, 0, none⟩ = some (.int .u8 c)) : Calls Try.prog 49 (#[.int .u8 b] ++ #[.pointer (some ⟨gc, 0, none⟩)]) w fun e w' => e = .returned (.bool (b == c)) ∧ w' = w := by
  show Calls Try.prog 49 #[.int .u8 b, .pointer (some ⟨gc, 0, none⟩)] w _
  go_enter Try.func49, Try.ntmps49
  go_wp2
  go_ret
  exact ⟨rfl, rfl⟩
theorem c50 (b : Int) (w : World) : Calls Try.prog 50 (#[.int .u8 b] ++ #[]) w fun e w' => e = .returned (.bool (b == 0)) ∧ w' = w := by
  show Calls Try.prog 50 #[.int .u8 b] w _
  go_enter Try.func50, Try.ntmps50
  go_wp2
  go_ret
  exact ⟨rfl, rfl⟩
theorem c51 (b : Int) (w : World) : Calls Try.prog 51 (#[.int .u8 b] ++ #[]) w fun e w' => e = .returned (.bool (decide (b ≤ 1))) ∧ w' = w := by
  show Calls Try.prog 51 #[.int .u8 b] w _
  go_enter Try.func51, Try.ntmps51
  go_wp2
  go_ret
  exact ⟨rfl, rfl⟩
theorem c53 (b : Int) (w : World) : Calls Try.prog 53 (#[.int .u8 b] ++ #[]) w fun e w' => e = .returned (.bool (decide (b < 128))) ∧ w' = w := by
  show Calls Try.prog 53 #[.int .u8 b] w _
  go_enter Try.func53, Try.ntmps53
  go_wp2
  go_ret
  exact ⟨rfl, rfl⟩
def okN (b fm : Int) : Bool := decide (b = 1) || (decide (fm = 1) && decide (b > 0) && decide (b ≤ 16))
theorem c52 (b fm : Int) (gf fb : Nat) (w : World) (h : w.cell? ⟨gf, 0, none⟩ = some (.pointer (some ⟨fb, 0, none⟩))) (h2 : w.cell? ⟨fb, 0, none⟩ = some (.int .i64 fm)) :
    Calls Try.prog 52 (#[.int .u8 b] ++ #[.pointer (some ⟨gf, 0, none⟩)]) w fun e w' => e = .returned (.bool (okN b fm)) ∧ w' = w := by
  show Calls Try.prog 52 #[.int .u8 b, .pointer (some ⟨gf, 0, none⟩)] w _
  unfold okN
  by_cases k1 : b = 1
  · have e1 : (b == 1) = true := beq_iff_eq.mpr k1
    rw [decide_eq_true k1, Bool.true_or]
    go_enter Try.func52, Try.ntmps52
    go_wp2
    go_ret
    exact ⟨rfl, rfl⟩
  · have e1 : (b == 1) = false := beq_eq_false_iff_ne.mpr k1
    rw [decide_eq_false k1, Bool.false_or]
    by_cases k2 : fm = 1
    · have e2 : (fm == 1) = true := beq_iff_eq.mpr k2
      rw [decide_eq_true k2, Bool.true_and]
      by_cases k3 : b > 0
      · have e3 : decide (b > 0) = true := decide_eq_true k3
        rw [e3, Bool.true_and]
        go_enter Try.func52, Try.ntmps52
        go_wp2
        go_ret
        exact ⟨rfl, rfl⟩
      · have e3 : decide (b > 0) = false := decide_eq_false k3
        rw [e3, Bool.false_and]
        go_enter Try.func52, Try.ntmps52
        go_wp2
        go_ret
        exact ⟨rfl, rfl⟩
    · have e2 : (fm == 1) = false := beq_eq_false_iff_ne.mpr k2
      rw [decide_eq_false k2, Bool.false_and, Bool.false_and]
      go_enter Try.func52, Try.ntmps52
      go_wp2
      go_ret
      exact ⟨rfl, rfl⟩
theorem c54 (b hi : Int) (gh : Nat) (w : World) (h : w.cell? ⟨gh, 0, none⟩ = some (.int .i64 hi)) :
    Calls Try.prog 54 (#[.int .u8 b] ++ #[.pointer (some ⟨gh, 0, none⟩)]) w fun e w' => e = .returned (.bool (decide (b > 0) || decide (hi > 0))) ∧ w' = w := by
  show Calls Try.prog 54 #[.int .u8 b, .pointer (some ⟨gh, 0, none⟩)] w _
  by_cases k1 : b > 0
  · have e1 : decide (b > 0) = true := decide_eq_true k1
    rw [e1, Bool.true_or]
    go_enter Try.func54, Try.ntmps54
    go_wp2
    go_ret
    exact ⟨rfl, rfl⟩
  · have e1 : decide (b > 0) = false := decide_eq_false k1
    rw [e1, Bool.false_or]
    go_enter Try.func54, Try.ntmps54
    go_wp2
    go_ret
    exact ⟨rfl, rfl⟩
def okAt (s : ByteArray) (i : Nat) : Bool := match i with
  | 0 => bt s 0 == 77
  | 1 => bt s 1 == 84
  | 2 => bt s 2 == 104
  | 3 => bt s 3 == 100
  | 4 => bt s 4 == 0
  | 5 => bt s 5 == 0
  | 6 => bt s 6 == 0
  | 7 => bt s 7 == 6
  | 8 => bt s 8 == 0
  | 9 => decide (bt s 9 ≤ 1)
  | 10 => bt s 10 == 0
  | 11 => okN (bt s 11) (bt s 9)
  | 12 => decide (bt s 12 < 128)
  | _ => decide (bt s 13 > 0) || decide (bt s 12 > 0)
def headGo (s : ByteArray) : Nat → Nat → Option (Int × Int)
  | 0, _ => none
  | n + 1, i => if (i : Int) < s.size then (if okAt s i = true then headGo s n (i + 1) else some ((i : Int), 160)) else some ((s.size : Int), 152)
end Go.Proofs.Ytdmnknhlibaaoaa.M
