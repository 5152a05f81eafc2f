/- Printed by a program of this session (wip/tools), out of the translation: functions with the same answers as the Go code, and the contracts of the code. Lean checks it. -/
import Derived.Test.YtendmmagjjhfnaaM0
namespace Go.Proofs.Ytendmmagjjhfnaa.M
open Go.RowKit Go.Proofs.YtendmmagjjhfnaaW.PrintWords Go.Proofs.YtendmmagjjhfnaaW.PrintLast Go.Proofs.YtendmmagjjhfnaaW.PrintMore
attribute [local go_sem] max2_int min2_int max_two min_two max_three min_three max_four min_four   -- for this text's walks alone
set_option linter.unusedVariables false
set_option linter.unusedSimpArgs false

/-- The first place, from i on, at which something is so; -1: there is none. -/
def fi (p : S38 → Bool) : Int → List S38 → Int
  | _, [] => -1
  | i, x :: xs => if p x then i else fi p (i + 1) xs
/-- Does a bar's turn lead away? -/
def isJump (x : S38) : Bool := decide (x.f7 ≠ 0)
theorem fi_none (p : S38 → Bool) (l : List S38) (k : Nat) (i : Int) (h : l.length ≤ k) : fi p i (l.drop k) = -1 := by
  rw [List.drop_of_length_le h]; rfl
theorem rd_T38_nat (l : List S38) (k : Nat) (h : k < l.length) : rd_T38 l (k : Int) = l[k] := by
  unfold rd_T38
  rw [Int.toNat_natCast, List.getD_eq_getElem?_getD, List.getElem?_eq_getElem h]; rfl
theorem fi_yes (p : S38 → Bool) (l : List S38) (k : Nat) (h : k < l.length) (hp : p (rd_T38 l (k : Int)) = true) : fi p k (l.drop k) = k := by
  rw [List.drop_eq_getElem_cons h, fi, ← rd_T38_nat l k h, if_pos hp]
theorem fi_no (p : S38 → Bool) (l : List S38) (k : Nat) (h : k < l.length) (hp : p (rd_T38 l (k : Int)) = false) : fi p k (l.drop k) = fi p ((k + 1 : Nat) : Int) (l.drop (k + 1)) := by
  rw [List.drop_eq_getElem_cons h, fi, ← rd_T38_nat l k h, if_neg (by simp [hp])]; rfl
theorem ret_int_ {a b : Int} (h : a = b) : Ending.returned (.int .i64 a) = .returned (.int .i64 b) := by rw [h]

set_option maxHeartbeats 1600000 in
set_option maxRecDepth 100000 in
theorem idx_38 (A0 : Option Addr) (c0 : Nat) (l0 : List S38) (w : World) (hr0 : Kd.C k38 w A0 l0.length l0) (hm : l0.length ≤ 140737488351232) :
    Calls Try.prog 41 #[.slice A0 l0.length c0, .func (.func 38) #[] #[]] w fun e w' => e = .returned (.int .i64 (fi (fun x => x.f3) 0 l0)) ∧ Below w.heap.size w w' := by
  have hu38 := Try.underlying38
  have HB := Aside0.mk (Below.refl w.heap.size w)
  have HR0 := Aside0.mk hr0
  clear hr0
  go_enter Try.func41, Try.ntmps41
  go_wp2
  go_loopw [8] (fun i wr => ∃ k : Nat, k ≤ l0.length ∧ i = .int .i64 (k : Int) ∧ Aside0 (fi (fun x => x.f3) k (l0.drop k) = fi (fun x => x.f3) 0 l0) ∧ Aside0 (Below w.heap.size w wr)) (fun i _ => l0.length - (intOf i).toNat)
  case atStart => exact ⟨0, Nat.zero_le _, rfl, ⟨by rw [List.drop_zero]; rfl⟩, HB⟩
  case round =>
    clear HB
    obtain ⟨k, hk, rfl, HF, HB⟩ := hrel
    by_cases hlt : k < l0.length
    · obtain ⟨ad, A2, c2, rfl, h0, h1, h2, h3, h4, h5, h6, h7, _, _⟩ := at_T38 HR0.out (k : Int) (by omega) (by omega)
      rw [Int.toNat_natCast] at h0 h1 h2 h3 h4 h5 h6 h7
      replace h0 := (HB.out.cell (World.block_lt_of_cell? w _ h0)).trans h0
      replace h1 := (HB.out.cell (World.block_lt_of_cell? w _ h1)).trans h1
      replace h2 := (HB.out.cell (World.block_lt_of_cell? w _ h2)).trans h2
      replace h3 := (HB.out.cell (World.block_lt_of_cell? w _ h3)).trans h3
      replace h4 := (HB.out.cell (World.block_lt_of_cell? w _ h4)).trans h4
      replace h5 := (HB.out.cell (World.block_lt_of_cell? w _ h5)).trans h5
      replace h6 := (HB.out.cell (World.block_lt_of_cell? w _ h6)).trans h6
      replace h7 := (HB.out.cell (World.block_lt_of_cell? w _ h7)).trans h7
      cases hp : (rd_T38 l0 (k : Int)).f3 with
      | true =>
        have HP := Aside0.mk hp
        rw [hp] at h3
        clear hp
        go_wp2
        go_ret
        exact ⟨ret_int_ (by rw [← HF.out]; exact (fi_yes _ _ _ hlt HP.out).symm), below_alloc HB.out _⟩
      | false =>
        have HP := Aside0.mk hp
        rw [hp] at h3
        clear hp
        go_wp2
        go_roundw
        case rel => exact ⟨k + 1, by omega, by go_num, ⟨(fi_no _ _ _ hlt HP.out).symm.trans HF.out⟩, ⟨below_alloc HB.out _⟩⟩
        case measure => simp [intOf]; omega
    · have hn : l0.length ≤ k := by omega
      obtain rfl : k = l0.length := by omega
      go_wp2
      go_ret
      exact ⟨ret_int_ (by rw [← HF.out]; exact (fi_none _ _ _ _ (Nat.le_refl _)).symm), HB.out⟩

set_option maxHeartbeats 1600000 in
set_option maxRecDepth 100000 in
theorem idx_39 (A0 : Option Addr) (c0 : Nat) (l0 : List S38) (w : World) (hr0 : Kd.C k38 w A0 l0.length l0) (hm : l0.length ≤ 140737488351232) :
    Calls Try.prog 41 #[.slice A0 l0.length c0, .func (.func 39) #[] #[]] w fun e w' => e = .returned (.int .i64 (fi (fun x => x.f4) 0 l0)) ∧ Below w.heap.size w w' := by
  have hu38 := Try.underlying38
  have HB := Aside0.mk (Below.refl w.heap.size w)
  have HR0 := Aside0.mk hr0
  clear hr0
  go_enter Try.func41, Try.ntmps41
  go_wp2
  go_loopw [8] (fun i wr => ∃ k : Nat, k ≤ l0.length ∧ i = .int .i64 (k : Int) ∧ Aside0 (fi (fun x => x.f4) k (l0.drop k) = fi (fun x => x.f4) 0 l0) ∧ Aside0 (Below w.heap.size w wr)) (fun i _ => l0.length - (intOf i).toNat)
  case atStart => exact ⟨0, Nat.zero_le _, rfl, ⟨by rw [List.drop_zero]; rfl⟩, HB⟩
  case round =>
    clear HB
    obtain ⟨k, hk, rfl, HF, HB⟩ := hrel
    by_cases hlt : k < l0.length
    · obtain ⟨ad, A2, c2, rfl, h0, h1, h2, h3, h4, h5, h6, h7, _, _⟩ := at_T38 HR0.out (k : Int) (by omega) (by omega)
      rw [Int.toNat_natCast] at h0 h1 h2 h3 h4 h5 h6 h7
      replace h0 := (HB.out.cell (World.block_lt_of_cell? w _ h0)).trans h0
      replace h1 := (HB.out.cell (World.block_lt_of_cell? w _ h1)).trans h1
      replace h2 := (HB.out.cell (World.block_lt_of_cell? w _ h2)).trans h2
      replace h3 := (HB.out.cell (World.block_lt_of_cell? w _ h3)).trans h3
      replace h4 := (HB.out.cell (World.block_lt_of_cell? w _ h4)).trans h4
      replace h5 := (HB.out.cell (World.block_lt_of_cell? w _ h5)).trans h5
      replace h6 := (HB.out.cell (World.block_lt_of_cell? w _ h6)).trans h6
      replace h7 := (HB.out.cell (World.block_lt_of_cell? w _ h7)).trans h7
      cases hp : (rd_T38 l0 (k : Int)).f4 with
      | true =>
        have HP := Aside0.mk hp
        rw [hp] at h4
        clear hp
        go_wp2
        go_ret
        exact ⟨ret_int_ (by rw [← HF.out]; exact (fi_yes _ _ _ hlt HP.out).symm), below_alloc HB.out _⟩
      | false =>
        have HP := Aside0.mk hp
        rw [hp] at h4
        clear hp
        go_wp2
        go_roundw
        case rel => exact ⟨k + 1, by omega, by go_num, ⟨(fi_no _ _ _ hlt HP.out).symm.trans HF.out⟩, ⟨below_alloc HB.out _⟩⟩
        case measure => simp [intOf]; omega
    · have hn : l0.length ≤ k := by omega
      obtain rfl : k = l0.length := by omega
      go_wp2
      go_ret
      exact ⟨ret_int_ (by rw [← HF.out]; exact (fi_none _ _ _ _ (Nat.le_refl _)).symm), HB.out⟩

set_option maxHeartbeats 1600000 in
set_option maxRecDepth 100000 in
theorem idx_28 (A0 : Option Addr) (c0 : Nat) (l0 : List S38) (w : World) (hr0 : Kd.C k38 w A0 l0.length l0) (hm : l0.length ≤ 140737488351232) :
    Calls Try.prog 41 #[.slice A0 l0.length c0, .func (.func 28) #[] #[]] w fun e w' => e = .returned (.int .i64 (fi (fun x => x.f6) 0 l0)) ∧ Below w.heap.size w w' := by
  have hu38 := Try.underlying38
  have HB := Aside0.mk (Below.refl w.heap.size w)
  have HR0 := Aside0.mk hr0
  clear hr0
  go_enter Try.func41, Try.ntmps41
  go_wp2
  go_loopw [8] (fun i wr => ∃ k : Nat, k ≤ l0.length ∧ i = .int .i64 (k : Int) ∧ Aside0 (fi (fun x => x.f6) k (l0.drop k) = fi (fun x => x.f6) 0 l0) ∧ Aside0 (Below w.heap.size w wr)) (fun i _ => l0.length - (intOf i).toNat)
  case atStart => exact ⟨0, Nat.zero_le _, rfl, ⟨by rw [List.drop_zero]; rfl⟩, HB⟩
  case round =>
    clear HB
    obtain ⟨k, hk, rfl, HF, HB⟩ := hrel
    by_cases hlt : k < l0.length
    · obtain ⟨ad, A2, c2, rfl, h0, h1, h2, h3, h4, h5, h6, h7, _, _⟩ := at_T38 HR0.out (k : Int) (by omega) (by omega)
      rw [Int.toNat_natCast] at h0 h1 h2 h3 h4 h5 h6 h7
      replace h0 := (HB.out.cell (World.block_lt_of_cell? w _ h0)).trans h0
      replace h1 := (HB.out.cell (World.block_lt_of_cell? w _ h1)).trans h1
      replace h2 := (HB.out.cell (World.block_lt_of_cell? w _ h2)).trans h2
      replace h3 := (HB.out.cell (World.block_lt_of_cell? w _ h3)).trans h3
      replace h4 := (HB.out.cell (World.block_lt_of_cell? w _ h4)).trans h4
      replace h5 := (HB.out.cell (World.block_lt_of_cell? w _ h5)).trans h5
      replace h6 := (HB.out.cell (World.block_lt_of_cell? w _ h6)).trans h6
      replace h7 := (HB.out.cell (World.block_lt_of_cell? w _ h7)).trans h7
      cases hp : (rd_T38 l0 (k : Int)).f6 with
      | true =>
        have HP := Aside0.mk hp
        rw [hp] at h6
        clear hp
        go_wp2
        go_ret
        exact ⟨ret_int_ (by rw [← HF.out]; exact (fi_yes _ _ _ hlt HP.out).symm), below_alloc HB.out _⟩
      | false =>
        have HP := Aside0.mk hp
        rw [hp] at h6
        clear hp
        go_wp2
        go_roundw
        case rel => exact ⟨k + 1, by omega, by go_num, ⟨(fi_no _ _ _ hlt HP.out).symm.trans HF.out⟩, ⟨below_alloc HB.out _⟩⟩
        case measure => simp [intOf]; omega
    · have hn : l0.length ≤ k := by omega
      obtain rfl : k = l0.length := by omega
      go_wp2
      go_ret
      exact ⟨ret_int_ (by rw [← HF.out]; exact (fi_none _ _ _ _ (Nat.le_refl _)).symm), HB.out⟩

set_option maxHeartbeats 1600000 in
set_option maxRecDepth 100000 in
theorem idx_30 (A0 : Option Addr) (c0 : Nat) (l0 : List S38) (w : World) (hr0 : Kd.C k38 w A0 l0.length l0) (hm : l0.length ≤ 140737488351232) :
    Calls Try.prog 41 #[.slice A0 l0.length c0, .func (.func 30) #[] #[]] w fun e w' => e = .returned (.int .i64 (fi (fun x => x.f5) 0 l0)) ∧ Below w.heap.size w w' := by
  have hu38 := Try.underlying38
  have HB := Aside0.mk (Below.refl w.heap.size w)
  have HR0 := Aside0.mk hr0
  clear hr0
  go_enter Try.func41, Try.ntmps41
  go_wp2
  go_loopw [8] (fun i wr => ∃ k : Nat, k ≤ l0.length ∧ i = .int .i64 (k : Int) ∧ Aside0 (fi (fun x => x.f5) k (l0.drop k) = fi (fun x => x.f5) 0 l0) ∧ Aside0 (Below w.heap.size w wr)) (fun i _ => l0.length - (intOf i).toNat)
  case atStart => exact ⟨0, Nat.zero_le _, rfl, ⟨by rw [List.drop_zero]; rfl⟩, HB⟩
  case round =>
    clear HB
    obtain ⟨k, hk, rfl, HF, HB⟩ := hrel
    by_cases hlt : k < l0.length
    · obtain ⟨ad, A2, c2, rfl, h0, h1, h2, h3, h4, h5, h6, h7, _, _⟩ := at_T38 HR0.out (k : Int) (by omega) (by omega)
      rw [Int.toNat_natCast] at h0 h1 h2 h3 h4 h5 h6 h7
      replace h0 := (HB.out.cell (World.block_lt_of_cell? w _ h0)).trans h0
      replace h1 := (HB.out.cell (World.block_lt_of_cell? w _ h1)).trans h1
      replace h2 := (HB.out.cell (World.block_lt_of_cell? w _ h2)).trans h2
      replace h3 := (HB.out.cell (World.block_lt_of_cell? w _ h3)).trans h3
      replace h4 := (HB.out.cell (World.block_lt_of_cell? w _ h4)).trans h4
      replace h5 := (HB.out.cell (World.block_lt_of_cell? w _ h5)).trans h5
      replace h6 := (HB.out.cell (World.block_lt_of_cell? w _ h6)).trans h6
      replace h7 := (HB.out.cell (World.block_lt_of_cell? w _ h7)).trans h7
      cases hp : (rd_T38 l0 (k : Int)).f5 with
      | true =>
        have HP := Aside0.mk hp
        rw [hp] at h5
        clear hp
        go_wp2
        go_ret
        exact ⟨ret_int_ (by rw [← HF.out]; exact (fi_yes _ _ _ hlt HP.out).symm), below_alloc HB.out _⟩
      | false =>
        have HP := Aside0.mk hp
        rw [hp] at h5
        clear hp
        go_wp2
        go_roundw
        case rel => exact ⟨k + 1, by omega, by go_num, ⟨(fi_no _ _ _ hlt HP.out).symm.trans HF.out⟩, ⟨below_alloc HB.out _⟩⟩
        case measure => simp [intOf]; omega
    · have hn : l0.length ≤ k := by omega
      obtain rfl : k = l0.length := by omega
      go_wp2
      go_ret
      exact ⟨ret_int_ (by rw [← HF.out]; exact (fi_none _ _ _ _ (Nat.le_refl _)).symm), HB.out⟩

set_option maxHeartbeats 1600000 in
set_option maxRecDepth 100000 in
theorem idx_40 (A0 : Option Addr) (c0 : Nat) (l0 : List S38) (w : World) (hr0 : Kd.C k38 w A0 l0.length l0) (hm : l0.length ≤ 140737488351232) :
    Calls Try.prog 41 #[.slice A0 l0.length c0, .func (.func 40) #[] #[]] w fun e w' => e = .returned (.int .i64 (fi isJump 0 l0)) ∧ Below w.heap.size w w' := by
  have hu38 := Try.underlying38
  have HB := Aside0.mk (Below.refl w.heap.size w)
  have HR0 := Aside0.mk hr0
  clear hr0
  go_enter Try.func41, Try.ntmps41
  go_wp2
  go_loopw [8] (fun i wr => ∃ k : Nat, k ≤ l0.length ∧ i = .int .i64 (k : Int) ∧ Aside0 (fi isJump k (l0.drop k) = fi isJump 0 l0) ∧ Aside0 (Below w.heap.size w wr)) (fun i _ => l0.length - (intOf i).toNat)
  case atStart => exact ⟨0, Nat.zero_le _, rfl, ⟨by rw [List.drop_zero]; rfl⟩, HB⟩
  case round =>
    clear HB
    obtain ⟨k, hk, rfl, HF, HB⟩ := hrel
    by_cases hlt : k < l0.length
    · obtain ⟨ad, A2, c2, rfl, h0, h1, h2, h3, h4, h5, h6, h7, _, _⟩ := at_T38 HR0.out (k : Int) (by omega) (by omega)
      rw [Int.toNat_natCast] at h0 h1 h2 h3 h4 h5 h6 h7
      replace h0 := (HB.out.cell (World.block_lt_of_cell? w _ h0)).trans h0
      replace h1 := (HB.out.cell (World.block_lt_of_cell? w _ h1)).trans h1
      replace h2 := (HB.out.cell (World.block_lt_of_cell? w _ h2)).trans h2
      replace h3 := (HB.out.cell (World.block_lt_of_cell? w _ h3)).trans h3
      replace h4 := (HB.out.cell (World.block_lt_of_cell? w _ h4)).trans h4
      replace h5 := (HB.out.cell (World.block_lt_of_cell? w _ h5)).trans h5
      replace h6 := (HB.out.cell (World.block_lt_of_cell? w _ h6)).trans h6
      replace h7 := (HB.out.cell (World.block_lt_of_cell? w _ h7)).trans h7
      by_cases hp : (rd_T38 l0 (k : Int)).f7 = 0
      · have HP : Aside0 (decide ((rd_T38 l0 (k : Int)).f7 ≠ 0) = false) := ⟨by simp [hp]⟩
        rw [hp] at h7
        clear hp
        go_wp2
        go_roundw
        case rel => exact ⟨k + 1, by omega, by go_num, ⟨(fi_no _ _ _ hlt HP.out).symm.trans HF.out⟩, ⟨below_alloc HB.out _⟩⟩
        case measure => simp [intOf]; omega
      · have HP : Aside0 (decide ((rd_T38 l0 (k : Int)).f7 ≠ 0) = true) := ⟨by simp [hp]⟩
        have hpb : ((rd_T38 l0 (k : Int)).f7 != 0) = true := bne_iff_ne.mpr hp
        clear hp
        go_wp2
        go_ret
        exact ⟨ret_int_ (by rw [← HF.out]; exact (fi_yes _ _ _ hlt HP.out).symm), below_alloc HB.out _⟩
    · have hn : l0.length ≤ k := by omega
      obtain rfl : k = l0.length := by omega
      go_wp2
      go_ret
      exact ⟨ret_int_ (by rw [← HF.out]; exact (fi_none _ _ _ _ (Nat.le_refl _)).symm), HB.out⟩

/-! ### turns_found_1: function 27 at the function value 38 -/
def turns_found_1.f (l0 : List (S38)) : Option Int := if l0.length ≤ 140737488351232 then some (fi (fun x => x.f3) 0 l0) else none
set_option maxHeartbeats 1600000 in
set_option maxRecDepth 100000 in
theorem turns_found_1.calls (A0 : Option Addr) (c0 : Nat) (l0 : List (S38)) (r : Int) (w : World) (hr0 : Kd.C k38 w A0 l0.length l0) (hc0 : l0.length ≤ c0) (h : turns_found_1.f l0 = some r) :
    Calls Try.prog 27 #[.slice A0 l0.length c0, .func (.func 38) #[] #[]] w fun e w' => e = .returned (.int .i64 r) ∧ Below w.heap.size w w' := by
  unfold turns_found_1.f at h
  by_cases hm : l0.length ≤ 140737488351232
  · rw [if_pos hm] at h
    obtain rfl := Option.some.inj h
    have HR0 := Aside0.mk hr0
    have HM := Aside0.mk hm
    clear hr0 hm h
    go_enter Try.func27, Try.ntmps27
    go_wp2_with ((with_reducible refine (idx_38 A0 c0 l0 _ HR0.out HM.out).mono ?_); rintro e w' ⟨rfl, hb⟩)
    go_ret
    exact ⟨rfl, hb⟩
  · rw [if_neg hm] at h
    cases h

end Go.Proofs.Ytendmmagjjhfnaa.M
