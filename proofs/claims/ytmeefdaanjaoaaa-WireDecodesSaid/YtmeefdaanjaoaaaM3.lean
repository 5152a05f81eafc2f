/- Printed by a program of this session (wip/tools), out of the translation: functions with the same answers as the Go code, and the contracts of the code. Lean checks it. -/
import Derived.Test.YtmeefdaanjaoaaaM0
namespace Go.Proofs.Ytmeefdaanjaoaaa.M
open Go.RowKit Go.Proofs.YtmeefdaanjaoaaaW.PrintWords Go.Proofs.YtmeefdaanjaoaaaW.PrintLast Go.Proofs.YtmeefdaanjaoaaaW.PrintMore
attribute [local go_sem] max2_int min2_int max_two min_two max_three min_three max_four min_four   -- for this text's walks alone
set_option linter.unusedVariables false
set_option linter.unusedSimpArgs false

/-! ### wire_number: function 28 -/
/-- The bytes that a part adds; the bytes of a number. -/
def wire_number.part (b n : Int) : List Int := if b ≤ n then [n / b % 128 + 128] else []
def wire_number.num (n : Int) : List Int := wire_number.part 2097152 n ++ wire_number.part 16384 n ++ wire_number.part 128 n ++ [n % 128]
def wire_number.f (a0 : Int) : Option (List Int) := if 0 ≤ a0 then (if a0 ≤ 268435455 then (some (wire_number.num a0)) else (none)) else (none)
theorem info5t : (Try.prog.info? 5).map (fun i => (i.zero, i.size, i.bytes)) = some (some (.int .u8 0), 1, 1) := by kernel_rfl

/-- What the closure 'part' leaves: the captured variables, and the row of bytes. -/
def PartPost (base Bn Bo : Nat) (n : Int) (xs : List Value) (w w' : World) : Prop :=
  ∃ v : Value, w'.heap[Bo]? = some (.cells #[v] 44 (0, 0)) ∧ w'.heap[Bn]? = some (.cells #[.int .i64 n] 3 (0, 0)) ∧ w'.ownsRow base 5 1 v xs.length xs ∧ v.ownBlock ≠ some Bo ∧ v.ownBlock ≠ some Bn ∧ Below base w w' ∧ base ≤ w'.heap.size

theorem part_end {n : Int} {Bn Bo base gg cap : Nat} {v : Value} {xs : List Value} {w w1 : World} {x : Value}
    (hN : w.heap[Bn]? = some (.cells #[.int .i64 n] 3 (0, 0))) (hO : w.heap[Bo]? = some (.cells #[v] 44 (0, 0))) (hbase : base ≤ w.heap.size) (hbo : base ≤ Bo) (hown : w.ownsRow base 5 1 v xs.length xs)
    (ao : v.ownBlock ≠ some Bo) (an : v.ownBlock ≠ some Bn) (hno : Bn ≠ Bo)
    (hown1 : w1.ownsRow base 5 1 (.slice (some ⟨gg, 0, none⟩) (xs.length + 1) cap) (xs.length + 1) (xs ++ [x]))
    (hgrow : (w.alloc (.cells #[x] 5)).drew.grownBy w1 v.ownBlock) (hat : v.ownBlock = some gg ∨ gg = w.heap.size + 1) :
    PartPost base Bn Bo n (xs ++ [x]) w (w1.setCell ⟨Bo, 0, none⟩ (.slice (some ⟨gg, 0, none⟩) (xs.length + 1) cap)) := by
  have lo := lt_of_block hO
  have ln := lt_of_block hN
  have gO : gg ≠ Bo := by
    rcases hat with h | h
    · intro e; exact ao (by rw [h, e])
    · omega
  have gN : gg ≠ Bn := by
    rcases hat with h | h
    · intro e; exact an (by rw [h, e])
    · omega
  have bO1 : w1.heap[Bo]? = some (.cells #[v] 44 (0, 0)) := by
    rw [hgrow.block Bo (by simp; omega) (Ne.symm ao)]
    exact (Below.heap_alloc _ _ _ lo).trans hO
  have bN1 : w1.heap[Bn]? = some (.cells #[.int .i64 n] 3 (0, 0)) := by
    rw [hgrow.block Bn (by simp; omega) (Ne.symm an)]
    exact (Below.heap_alloc _ _ _ ln).trans hN
  have hB1 : Below base w w1 := (((Below.refl base w).alloc hbase _).drew).grown hgrow (by simp; omega) (fun k hk => own_base hown k hk)
  refine ⟨.slice (some ⟨gg, 0, none⟩) (xs.length + 1) cap, one_setCell bO1, ?_, ?_, ?_, ?_, ?_, ?_⟩
  · rw [Below.heap_setCell _ _ _ _ hno]; exact bN1
  · simpa using ownsRow_setCell_other hown1 (a := ⟨Bo, 0, none⟩) (by simpa [Value.ownBlock] using gO) _
  · simpa [Value.ownBlock] using gO
  · simpa [Value.ownBlock] using gN
  · exact hB1.setCell (p := ⟨Bo, 0, none⟩) hbo _
  · have := hB1.size; simp; omega

set_option maxRecDepth 100000 in
set_option maxHeartbeats 1600000 in
theorem part_yes (b n : Int) (Bn Bo base : Nat) (v : Value) (xs : List Value) (w : World) (hb0 : 1 ≤ b) (hb1 : b ≤ 2097152) (hn0 : 0 ≤ n) (hn1 : n ≤ 268435455) (hge : b ≤ n)
    (hN : w.heap[Bn]? = some (.cells #[.int .i64 n] 3 (0, 0))) (hO : w.heap[Bo]? = some (.cells #[v] 44 (0, 0)))
    (hown : w.ownsRow base 5 1 v xs.length xs) (hlen : xs.length ≤ 1000) (hbase : base ≤ w.heap.size)
    (ao : v.ownBlock ≠ some Bo) (an : v.ownBlock ≠ some Bn) (hno : Bn ≠ Bo) (hbo : base ≤ Bo) :
    Calls Try.prog 34 #[.int .i64 b, .pointer (some ⟨Bn, 0, none⟩), .pointer (some ⟨Bo, 0, none⟩)] w fun e w' => e = .returned (.tuple #[]) ∧ PartPost base Bn Bo n (xs ++ [.int .u8 (n / b % 128 + 128)]) w w' := by
  obtain ⟨i0, hi0, hz0, hz1, hz2⟩ := info_parts info5t
  have lo := lt_of_block hO
  have ln := lt_of_block hN
  have cN := cell_of_one hN
  have cO := cell_of_one hO
  have fO := free_of_one hO
  have hd : decide (b ≤ n) = true := decide_eq_true hge
  have hq0 : 0 ≤ n / b := Int.ediv_nonneg hn0 (by omega)
  have hm0 : 0 ≤ n / b % 128 := Int.emod_nonneg _ (by decide)
  have hm1 : n / b % 128 < 128 := Int.emod_lt_of_pos _ (by decide)
  have hs1 : IntKind.i64.wrap (n / b % 128 + 128) = n / b % 128 + 128 := IntWalk.i64_in _ (by omega)
  have hs2 : IntKind.u8.wrap (n / b % 128 + 128) = n / b % 128 + 128 := by rw [IntKind.wrap, if_neg (by simp [IntKind.signed])]; simp [IntKind.bits]; omega
  have hs3 : (n / b).tmod 128 = n / b % 128 := Int.tmod_eq_emod_of_nonneg hq0
  have hs4 : IntKind.i64.wrap (n.tdiv b) = n / b := by rw [Int.tdiv_eq_ediv_of_nonneg hn0]; exact IntWalk.i64_in _ (by have := Int.ediv_le_self b hn0; omega)
  have hbz : (b == 0) = false := beq_eq_false_iff_ne.mpr (by omega)
  have hbz' : ¬ b = 0 := by omega
  go_enter Try.func34, Try.ntmps34
  go_wp2_with fail
  go_region_law (refine step_append_lies _ (by rfl) _ _ _ (by rfl) base 5 i0 _ 1 1 Try.underlying44 hi0 hz0 hz1 hz2 rfl (by omega) v xs.length xs (by rfl) ((hown.alloc _).drew) ⟨w.heap.size, 0, none⟩ 1 1 [.int .u8 (n / b % 128 + 128)] (by rfl) (by rfl) (World.news_of_block (heap_alloc_new w _)) (by simp [Value.oneCell']) (by omega) (by unfold maxLen; omega) (by omega) (by simp; omega) (w.heap.size + 1) (by simp) ?_; intro gg cap w1 hown1 hgrow hat hlt; have c1 : w1.cell? ⟨Bo, 0, none⟩ = some v := (by rw [hgrow.cell_far _ (by simp; omega) (by simpa using Ne.symm ao)]; exact (World.cell?_alloc_lt _ _ _ lo).trans cO); have f1 : w1.frozen? ⟨Bo, 0, none⟩ = false := (by rw [hgrow.frozen_far _ (by simp; omega) (by simpa using Ne.symm ao)]; exact (frozen?_alloc_cells _ _ _ _).trans fO))
  all_goals
    refine bodyPost_end (results_none rfl _ _ _) rfl ?_
    exact ⟨rfl, part_end hN hO hbase hbo hown ao an hno hown1 hgrow hat⟩

set_option maxRecDepth 100000 in
theorem part_no (b n : Int) (Bn Bo : Nat) (w : World) (hge : n < b)
    (hN : w.heap[Bn]? = some (.cells #[.int .i64 n] 3 (0, 0))) :
    Calls Try.prog 34 #[.int .i64 b, .pointer (some ⟨Bn, 0, none⟩), .pointer (some ⟨Bo, 0, none⟩)] w fun e w' => e = .returned (.tuple #[]) ∧ w = w' := by
  have cN := cell_of_one hN
  have hd : decide (b ≤ n) = false := decide_eq_false (by omega)
  go_enter Try.func34, Try.ntmps34
  go_wp2_with fail
  go_end0
  exact ⟨rfl, rfl⟩

/-- The bytes that 'part' adds. -/
def partL (b n : Int) : List Value := if b ≤ n then [.int .u8 (n / b % 128 + 128)] else []
theorem partL_len (b n : Int) : (partL b n).length ≤ 1 := by unfold partL; split <;> simp

theorem part_any (b n : Int) (Bn Bo base : Nat) (v : Value) (xs : List Value) (w : World) (hb0 : 1 ≤ b) (hb1 : b ≤ 2097152) (hn0 : 0 ≤ n) (hn1 : n ≤ 268435455)
    (hN : w.heap[Bn]? = some (.cells #[.int .i64 n] 3 (0, 0))) (hO : w.heap[Bo]? = some (.cells #[v] 44 (0, 0)))
    (hown : w.ownsRow base 5 1 v xs.length xs) (hlen : xs.length ≤ 1000) (hbase : base ≤ w.heap.size)
    (ao : v.ownBlock ≠ some Bo) (an : v.ownBlock ≠ some Bn) (hno : Bn ≠ Bo) (hbo : base ≤ Bo) :
    Calls Try.prog 34 #[.int .i64 b, .pointer (some ⟨Bn, 0, none⟩), .pointer (some ⟨Bo, 0, none⟩)] w fun e w' => e = .returned (.tuple #[]) ∧ PartPost base Bn Bo n (xs ++ partL b n) w w' := by
  by_cases h : b ≤ n
  · unfold partL
    rw [if_pos h]
    exact part_yes b n Bn Bo base v xs w hb0 hb1 hn0 hn1 h hN hO hown hlen hbase ao an hno hbo
  · unfold partL
    rw [if_neg h, List.append_nil]
    refine (part_no b n Bn Bo w (by omega) hN).mono ?_
    rintro e w' ⟨rfl, rfl⟩
    exact ⟨rfl, v, hO, hN, hown, ao, an, Below.refl _ _, hbase⟩

/-- The bytes of a number, as values. -/
def numV (n : Int) : List Value := partL 2097152 n ++ partL 16384 n ++ partL 128 n ++ [Value.int .u8 (n % 128)]

set_option maxRecDepth 100000 in
set_option maxHeartbeats 1600000 in
theorem number_any (n : Int) (w : World) (hn0 : 0 ≤ n) (hn1 : n ≤ 268435455) :
    Calls Try.prog 28 #[.int .i64 n] w fun e w' => ∃ v, e = .returned v ∧ w'.ownsRow w.heap.size 5 1 v (numV n).length (numV n) ∧ Below w.heap.size w w' := by
  obtain ⟨i0, hi0, hz0, hz1, hz2⟩ := info_parts info5t
  have hl1 := partL_len 2097152 n
  have hl2 := partL_len 16384 n
  have hl3 := partL_len 128 n
  have hm1 : 0 ≤ n % 128 := Int.emod_nonneg _ (by decide)
  have hm2 : n % 128 < 128 := Int.emod_lt_of_pos _ (by decide)
  have hs2 : IntKind.u8.wrap (n % 128) = n % 128 := by rw [IntKind.wrap, if_neg (by simp [IntKind.signed])]; simp [IntKind.bits]; omega
  have hs2' : n % 128 % 256 = n % 128 := by omega
  go_enter Try.func28, Try.ntmps28
  go_wp2_with fail
  refine (part_any 2097152 n w.heap.size (w.heap.size + 1) w.heap.size (.slice none 0 0) [] _ (by omega) (by omega) hn0 hn1 ?n1 ?o1 (own_nil _ _ _ _) (by simp) (by simp; omega) (by simp [Value.ownBlock]) (by simp [Value.ownBlock]) (by omega) (by omega)).mono ?_
  case n1 => rw [Below.heap_alloc _ _ _ (by simp)]; exact heap_alloc_new w _
  case o1 => simpa using heap_alloc_new (w.alloc (.cells #[.int .i64 n] 3)) (.cells #[.slice none 0 0] 44)
  rintro e w1 ⟨rfl, v1, hO1, hN1, ho1, ao1, an1, hB1, hs1⟩
  rw [List.nil_append] at ho1
  have HB1 : Hid (Below w.heap.size w w1) := Lib.hid ((((Below.refl _ w).alloc (Nat.le_refl _) _).alloc (by simp) _).trans hB1)
  clear hB1
  go_wp2_with fail
  refine (part_any 16384 n w.heap.size (w.heap.size + 1) w.heap.size v1 (partL 2097152 n) _ (by omega) (by omega) hn0 hn1 hN1 hO1 ho1 (by omega) hs1 ao1 an1 (by omega) (by omega)).mono ?_
  rintro e w2 ⟨rfl, v2, hO2, hN2, ho2, ao2, an2, hB2, hs2⟩
  have HB2 : Hid (Below w.heap.size w w2) := Lib.hid (HB1.out.trans hB2)
  clear hB2
  go_wp2_with fail
  refine (part_any 128 n w.heap.size (w.heap.size + 1) w.heap.size v2 (partL 2097152 n ++ partL 16384 n) _ (by omega) (by omega) hn0 hn1 hN2 hO2 ho2 (by simp; omega) hs2 ao2 an2 (by omega) (by omega)).mono ?_
  rintro e w3 ⟨rfl, v3, hO3, hN3, ho3, ao3, an3, hB3, hs3⟩
  have HB3 : Hid (Below w.heap.size w w3) := Lib.hid (HB2.out.trans hB3)
  clear hB3
  have cN := cell_of_one hN3
  have cO := cell_of_one hO3
  go_wp2_with (at_builtin; go_loud (refine print_append (w0 := w) w.heap.size rfl (.tmp 12) (.tmp 16) 44 5 (.int .u8 0) 1 rfl Try.underlying44 info5t rfl (by decide) v3 (partL 2097152 n ++ partL 16384 n ++ partL 128 n) (.int .u8 (n % 128)) rfl rfl rfl ?aO ?aB ?aS ?aL ?_); (case aO => exact ho3); (case aB => exact HB3.out); (case aS => exact hs3); (case aL => (simp; omega)); intro v4 w4 ho4 hb4 _ _)
  go_ret
  exact ⟨v4, rfl, ho4, hb4⟩

theorem partL_nums (b n : Int) : partL b n = nums .u8 (wire_number.part b n) := by
  unfold partL wire_number.part nums
  split <;> simp
theorem numV_nums (n : Int) : numV n = nums .u8 (wire_number.num n) := by
  unfold numV wire_number.num
  rw [nums_append, nums_append, nums_append, partL_nums, partL_nums, partL_nums]
  rfl
theorem wire_number.calls (a0 : Int) (r : List Int) (w : World) (h : wire_number.f a0 = some r) :
    Calls Try.prog 28 #[.int .i64 a0] w fun e w' => ∃ v0_ : Value, e = .returned (v0_) ∧ Kd.R (Kd.int .u8) 5 w' w.heap.size (fun _ => True) v0_ r ∧ Below w.heap.size w w' := by
  unfold wire_number.f at h
  by_cases h0 : 0 ≤ a0
  · by_cases h1 : a0 ≤ 268435455
    · rw [if_pos h0, if_pos h1] at h
      obtain rfl := Option.some.inj h
      refine (number_any a0 w h0 h1).mono ?_
      rintro e w' ⟨v, rfl, ho, hb⟩
      rw [numV_nums, nums_length] at ho
      exact ⟨v, rfl, Kd.R_of_own (enc := Value.int .u8) (h1 := fun _ => rfl) (ok := fun _ => True) ho (fun _ _ => trivial), hb⟩
    · rw [if_pos h0, if_neg h1] at h
      cases h
  · rw [if_neg h0] at h
    cases h

end Go.Proofs.Ytmeefdaanjaoaaa.M
