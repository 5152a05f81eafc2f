/- Printed by a program of this session (wip/tools), out of the translation: functions with the same answers as the Go code, and the contracts of the code. Lean checks it. -/
import Derived.Test.YtmeefdaanjaoaaaM0
import Derived.Test.YtmeefdaanjaoaaaM10
import Derived.Test.YtmeefdaanjaoaaaM15
namespace Go.Proofs.Ytmeefdaanjaoaaa.M
open Go.RowKit Go.Proofs.YtmeefdaanjaoaaaW.PrintWords Go.Proofs.YtmeefdaanjaoaaaW.PrintLast Go.Proofs.YtmeefdaanjaoaaaW.PrintMore
attribute [local go_sem] max2_int min2_int max_two min_two max_three min_three max_four min_four   -- for this text's walks alone
set_option linter.unusedVariables false
set_option linter.unusedSimpArgs false

/-! ### wire_Decode: function 24 -/
def wire_Decode.l0 : Nat → ByteArray → List (S31) → ByteArray → Int → Int → Option ((List (S31)) × Int × Int)
  | 0, _, _, _, _, _ => none
  | k + 1, x0, x5, y0, y1, y2 => if y1 < (x0.size : Int) then ((wire_reader_message.f k y0 y1 y2 0).bind fun b => (if b.2.2.2.2.2.2.2.2.2 = 0 then (if x5.length < 2513169434916 then (wire_Decode.l0 k x0 (x5 ++ [(⟨b.1, b.2.1, b.2.2.1, b.2.2.2.1, b.2.2.2.2.1, b.2.2.2.2.2.1⟩ : S31)]) b.2.2.2.2.2.2.1 b.2.2.2.2.2.2.2.1 b.2.2.2.2.2.2.2.2.1) else (none)) else (some (([] : List (S31)), y1, b.2.2.2.2.2.2.2.2.2)))) else (some (x5, 0, 0))
def wire_Decode.f (k : Nat) (a0 : ByteArray) : Option ((List (S31)) × Int × Int) := wire_Decode.l0 k a0 ([] : List (S31)) a0 0 0
theorem wire_Decode.mono_l : ∀ k, (∀ y0 y1 y2 y3 y4, LeO (wire_Decode.l0 k y0 y1 y2 y3 y4) (wire_Decode.l0 (k + 1) y0 y1 y2 y3 y4))
  | 0 => fun _ _ _ _ _ r h => by simp [wire_Decode.l0] at h
  | k + 1 => by
    have ih0 := wire_Decode.mono_l k
    · intro y0 y1 y2 y3 y4
      unfold wire_Decode.l0
      repeat' first
      | (with_reducible exact ih0 _ _ _ _ _)
      | (with_reducible exact wire_reader_message.mono _ _ _ _ _)
      | (with_reducible exact LeO.refl _)
      | (with_reducible exact LeO.none _)
      | (with_reducible refine LeO.ite ?_ ?_)
      | (with_reducible refine LeO.bind ?_ (fun _ => ?_))
      | exact ih0 _ _ _ _ _
      | exact wire_reader_message.mono _ _ _ _ _
      | exact LeO.none _
      | refine LeO.ite ?_ ?_
      | refine LeO.bind ?_ (fun _ => ?_)
theorem wire_Decode.mono : ∀ a0 k, LeO (wire_Decode.f k a0) (wire_Decode.f (k + 1) a0) := fun a0 k => wire_Decode.mono_l k a0 [] a0 0 0
theorem S50_set_far {w0 W : World} {g : Nat} {f0 : ByteArray} {f1 f2 f3 : Int} (h : IsS50 w0 W g f0 f1 f2 f3) (p : Addr) (hne : p.block ≠ g) (u : Value) : IsS50 w0 (W.setCell p u) g f0 f1 f2 f3 := IsS50.far h (Ne.symm hne) u
set_option maxHeartbeats 8000000 in
set_option maxRecDepth 100000 in
theorem wire_Decode.calls (k : Nat) (a0 : ByteArray) (r1 : List (S31)) (r2 : Int) (r3 : Int) (w : World) (h : wire_Decode.f k a0 = some (r1, r2, r3)) :
    Calls Try.prog 24 #[.string a0] w fun e w' => ∃ v0_ : Value, e = .returned (.tuple #[v0_, .int .i64 r2, .int .i64 r3]) ∧ Kd.R k31 31 w' w.heap.size (fun _ => True) v0_ r1 ∧ Below w.heap.size w w' := by
  have hu31 := Try.underlying31
  have hu50 := Try.underlying50
  have HB0 := Aside0.mk (Below.refl w.heap.size w)
  have H : (wire_Decode.l0 k a0 ([] : List (S31)) a0 0 0) = some (r1, r2, r3) := h
  clear h
  have H' := Aside0.mk H
  clear H
  have HS := Aside0.mk (IsS50.new w w a0 0 0 0 (Below.refl _ _))
  go_enter Try.func24, Try.ntmps24
  go_wp2
  go_loopg [5] k (fun kq v5 w' => ∃ (x5_1 : List (S31)) (y0 : ByteArray) (y1 y2 : Int), Aside0 (wire_Decode.l0 kq a0 x5_1 y0 y1 y2 = some (r1, r2, r3)) ∧ Aside0 (kq ≤ k) ∧ Aside0 (Kd.R k31 31 w' w.heap.size (fun _ => True) v5 x5_1) ∧ Aside0 (IsS50 w w' w.heap.size y0 y1 y2 0) ∧ Aside0 (Below w.heap.size w w'))
  case atStart => exact ⟨([] : List (S31)), a0, 0, 0, H', ⟨Nat.le_refl _⟩, ⟨Kd.R_nil _ _ _ _ _⟩, HS, ⟨(Below.refl _ _).alloc (Nat.le_refl _) _⟩⟩
  case round =>
    clear H' HS HB0
    obtain ⟨x5_1, y0, y1, y2, HA, HK1, HO_5, HS, HB⟩ := hrel
    cases gk with
    | zero => exact absurd HA.out (by simp [wire_Decode.l0])
    | succ k1 =>
      have H := HA.out
      clear HA
      simp only [wire_Decode.l0] at H
      have cy1 := cellS50_1 HS.out.1
      by_cases c2 : y1 < (a0.size : Int)
      · rw [if_pos c2] at H
        have c2b0 : decide (y1 < (a0.size : Int)) = true := decide_eq_true c2
        clear c2
        replace H := Option.bind_eq_some_iff.mp H
        obtain ⟨⟨t1, t2, t3, t4, t5, t6, s1, s2, s3, s4⟩, A30, H⟩ := H
        replace H : (if s4 = 0 then (if x5_1.length < 2513169434916 then (wire_Decode.l0 k1 a0 (x5_1 ++ [(⟨t1, t2, t3, t4, t5, t6⟩ : S31)]) s1 s2 s3) else (none)) else (some (([] : List (S31)), y1, s4))) = some (r1, r2, r3) := H
        have A3 := Aside0.mk A30
        clear A30
        have H' := Aside0.mk H
        clear H
        go_wp2_with fail
        refine (wire_reader_message.calls k1 w.heap.size y0 y1 y2 0 t1 t2 t3 t4 t5 t6 s1 s2 s3 s4 w _ HS.out HB.out A3.out).mono ?_
        rintro e w6 ⟨rfl, hi, hb, hk⟩
        have HO6 := Aside0.mk (Kd.R_keep (Kd.R_types HO_5.out HS.out.1 (by decide)) hk (fun _ hk => hk.2))
        have HS6 := Aside0.mk hi
        have HB6 := Aside0.mk hb
        clear hi hb hk HO_5 HS HB cy1
        have ce : w6.cell? ⟨w.heap.size, 3, none⟩ = some (.int .i64 s4) := cellS50_3 HS6.out.1
        have hlt : w.heap.size < w6.heap.size := IsS50.lt HS6.out
        have hne : w.heap.size ≠ w6.heap.size := Nat.ne_of_lt hlt
        have H := H'.out
        clear H'
        by_cases c4 : s4 = 0
        · rw [if_pos c4] at H
          by_cases c5 : x5_1.length < 2513169434916
          · rw [if_pos c5] at H
            have c4b1 : (s4 != 0) = false := bne_eq_false_iff_eq.mpr c4
            have LM := Aside0.mk c5
            have H' := Aside0.mk H
            have C4 := Aside0.mk c4
            clear H c4 c5
            have HO7 := Aside0.mk (Kd.R_mono (Kd.R_alloc (o := .cells #[.int .i64 t1, .int .i64 t2, .int .i64 t3, .int .i64 t4, .int .i64 t5, .string t6] 31) HO6.out) (fun _ _ => trivial) : Kd.R k31 31 _ w.heap.size (fun _ => True) u5 x5_1)
            have HS7 := Aside0.mk (HS6.out.alloc (.cells #[.int .i64 t1, .int .i64 t2, .int .i64 t3, .int .i64 t4, .int .i64 t5, .string t6] 31))
            have HB7 := Aside0.mk (below_alloc HB6.out (.cells #[.int .i64 t1, .int .i64 t2, .int .i64 t3, .int .i64 t4, .int .i64 t5, .string t6] 31))
            go_wp2_with (((with_reducible refine gate_builtin (b := .append) (xs := #[.tmp 35, .tmp 37]) rfl ?_); at_builtin; go_loud (refine Kd.R_append k31 (w0 := w) w.heap.size rfl (.tmp 35) (.tmp 37) 33 31 (.agg #[(.int .i64 0), (.int .i64 0), (.int .i64 0), (.int .i64 0), (.int .i64 0), (.string ⟨#[]⟩)]) 56 rfl Try.underlying33 info31 rfl (by decide) (by omega) u5 x5_1 (⟨t1, t2, t3, t4, t5, t6⟩ : S31) [.int .i64 t1, .int .i64 t2, .int .i64 t3, .int .i64 t4, .int .i64 t5, .string t6] (fun _ => True) (fun _ => False) rfl (by first | (go_simp; done) | (go_simp; rfl)) ?aP (fun _ hk => hk.elim) ?aF ?aO ?aB ?aS ?aL ?_); (case aP => exact k31_mkM _ _ _ (⟨t1, t2, t3, t4, t5, t6⟩ : S31)); (case aF => exact (fun _ _ => trivial)); (case aO => exact HO7.out); (case aB => exact HB7.out); (case aS => exact below_size HB7.out); (case aL => have := LM.out; omega); intro v9 w9 ho hb hg hat; have HO9 := Aside0.mk ho; have HB9 := Aside0.mk hb; have HS9 := Aside0.mk (HS7.out.grown hg (Kd.R_ne HO7.out HS7.out.1 (by decide))); clear ho hb hg hat))
            go_roundg k1
            case measure => have := HK1.out; omega
            case rel => exact ⟨_, s1, s2, s3, H', ⟨by have := HK1.out; omega⟩, HO9, ⟨by have h9 := HS9.out; rw [C4.out] at h9; exact h9⟩, HB9⟩
          · rw [if_neg c5] at H
            exact absurd H (by simp)
        · rw [if_neg c4] at H
          have c4b1 : (s4 != 0) = true := bne_iff_ne.mpr c4
          simp only [Option.some.injEq, Prod.mk.injEq] at H
          obtain ⟨rfl, rfl, rfl⟩ := H
          go_wp2_with fail
          go_quiet (fail)
          go_wp2_with fail
          go_ret3
          exact ⟨_, rfl, Kd.R_nil _ _ _ _ _, pw_below_drewN (below_alloc HB6.out _) _⟩
      · rw [if_neg c2] at H
        have c2b0 : decide (y1 < (a0.size : Int)) = false := decide_eq_false c2
        clear c2
        simp only [Option.some.injEq, Prod.mk.injEq] at H
        obtain ⟨rfl, rfl, rfl⟩ := H
        go_wp2
        go_ret3
        exact ⟨_, rfl, HO_5.out, HB.out⟩

end Go.Proofs.Ytmeefdaanjaoaaa.M
